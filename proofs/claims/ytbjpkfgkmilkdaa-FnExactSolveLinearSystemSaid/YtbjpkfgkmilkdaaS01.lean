/- Contracts of functions that the statement reaches. -/
import Derived.WalkKit
import Derived.WalkSpells
import Derived.WalkLawsBesides
import Derived.Deep.QuietTactic
import Derived.BigQuiet
import Derived.Outline
import Derived.Lib.Hide
import Derived.ProofKit
import Derived.Deep.RegionHeld3
import Derived.Deep.Cut
import Derived.Test.YtbjpkfgkmilkdaaRows
import Derived.Maps.AppendAt
import Derived.Deep.Slices
namespace Go.Proofs.Ytbjpkfgkmilkdaa
open Go.RowKit
def ext (w x : World) : World := { x with os := w.os, tape := w.tape, output := w.output, heap := w.heap ++ x.heap.extract w.heap.size x.heap.size }
theorem below_ext (w x : World) : Below w.heap.size w (ext w x) :=
  ⟨rfl, rfl, rfl, by simp [ext], fun k hk => by simp [ext, Array.getElem?_append, hk]⟩
theorem ext_of_below {w x : World} (h : Below w.heap.size w x) : ext w x = x := by
  obtain ⟨h1, h2, h3, h4, h5⟩ := h
  have hh : w.heap ++ x.heap.extract w.heap.size x.heap.size = x.heap := by
    apply Array.ext_getElem?
    intro i
    rw [Array.getElem?_append]
    split
    · rename_i hi; exact (h5 i hi).symm
    · rename_i hi
      rw [Array.getElem?_extract]
      split
      · congr 1; omega
      · rw [Array.getElem?_eq_none (by omega)]
  unfold ext
  rw [hh, ← h1, ← h2, ← h3]
theorem isExt {w x : World} (h : Below w.heap.size w x) : ∃ y, x = ext w y := ⟨x, (ext_of_below h).symm⟩
section
variable {w x y : World} {a : Addr} {b : Nat}
theorem size_ext : w.heap.size ≤ (ext w x).heap.size := (below_ext w x).size
@[go_sem] theorem cell_ext (h : a.block < w.heap.size) : (ext w x).cell? a = w.cell? a := (below_ext w x).cell h
@[go_sem] theorem frozen_ext (h : a.block < w.heap.size) : (ext w x).frozen? a = w.frozen? a := (below_ext w x).frozen h
@[simp, go_sem] theorem tape_ext : (ext w x).tape = w.tape := rfl
@[go_sem] theorem lt_ext (h : b < w.heap.size) : b < (ext w x).heap.size := Nat.lt_of_lt_of_le h size_ext
@[go_sem] theorem le_ext (h : b ≤ w.heap.size) : b ≤ (ext w x).heap.size := Nat.le_trans h size_ext
@[go_sem] theorem le_size (h : b < w.heap.size) : b ≤ w.heap.size := Nat.le_of_lt h
theorem ext_ext : ext (ext w x) y = ext w (ext (ext w x) y) := (ext_of_below ((below_ext w x).trans ((below_ext _ y).mono size_ext))).symm
end
attribute [irreducible] ext
theorem drew_ext (w : World) : ∃ y, w.drew = ext w y := isExt ⟨rfl, rfl, rfl, Nat.le_refl _, fun _ _ => rfl⟩
theorem alloc_ext (w : World) (o : Obj) : ∃ y, w.alloc o = ext w y := isExt ((Below.refl _ _).alloc (Nat.le_refl _) o)
theorem refl_ext (w : World) : ∃ y, w = ext w y := isExt (Below.refl _ _)
theorem trans_ext {w w1 w2 : World} (h : ∃ y, w1 = ext w y) (k : ∃ y, w2 = ext w1 y) : ∃ y, w2 = ext w y := by
  obtain ⟨y, rfl⟩ := h
  obtain ⟨z, rfl⟩ := k
  exact ⟨_, ext_ext⟩
theorem wp_region_ext {P : Program} {id : Nat} {Q : Exit → Act → World → Prop} {a : Act} {w : World} {l : List Oper} (hm : P.follows .mixedOrders = true) (hB : Region.lexB .any l.toArray = true)
    (h : wpQuiet P l.toArray (fun w' => ∃ y, w' = ext w y) (fun a' => ∀ w', (∃ y, w' = ext w y) → Q .normal a' w') l a) : (Code.region id l.toArray true).wp P Q a w :=
  wp_region_quiet (C := fun w' => ∃ y, w' = ext w y) hm hB (drew_ext w) (by simpa using h)
theorem quietE {P : Program} {f : FuncId} {args : Array Value} {w y : World} {v : Value}
    (h : Calls P f args (ext w y) fun e w' => e = .returned v ∧ ∃ z, w' = ext (ext w y) z) : Calls P f args (ext w y) fun e w' => e = .returned v ∧ ∃ z, w' = ext w z :=
  h.mono fun _ _ ⟨he, hz⟩ => ⟨he, trans_ext ⟨y, rfl⟩ hz⟩
theorem quietS {P : Program} {f : FuncId} {args : Array Value} {w y : World} {v : Value}
    (h : Calls P f args (ext w y) fun e w' => e = .returned v ∧ ext w y = w') : Calls P f args (ext w y) fun e w' => e = .returned v ∧ ∃ z, w' = ext w z :=
  h.mono fun _ _ ⟨he, hz⟩ => ⟨he, y, hz.symm⟩
theorem quietSb {P : Program} {f : FuncId} {args : Array Value} {w y : World} {c b : Bool}
    (h : Calls P f args (ext w y) fun e w' => e = .returned (.bool c) ∧ ext w y = w') (hc : c = b) : Calls P f args (ext w y) fun e w' => e = .returned (.bool b) ∧ ∃ z, w' = ext w z := by
  subst hc; exact quietS h
theorem quietEb {P : Program} {f : FuncId} {args : Array Value} {w y : World} {c b : Bool}
    (h : Calls P f args (ext w y) fun e w' => e = .returned (.bool c) ∧ ∃ z, w' = ext (ext w y) z) (hc : c = b) : Calls P f args (ext w y) fun e w' => e = .returned (.bool b) ∧ ∃ z, w' = ext w z := by
  subst hc; exact quietE h
theorem ret_int {k : IntKind} {a b : Int} (h : a = b) : Ending.returned (.int k a) = .returned (.int k b) := by rw [h]
theorem ret_bool {a b : Bool} (h : a = b) : Ending.returned (.bool a) = .returned (.bool b) := by rw [h]
theorem wp_name {P : Program} {c : Code} {Q : Exit → Act → World → Prop} {a : Act} {w : World} (h : ∀ W, Hid (W = w) → c.wp P Q a W) : c.wp P Q a w := h w rfl
theorem heldE {W w' : World} (h : ∃ y, w' = ext W y) : (∀ a : Addr, a.block < W.heap.size → w'.cell? a = W.cell? a) ∧ ∃ y, w' = ext W y := by
  obtain ⟨y, rfl⟩ := h
  exact ⟨fun a ha => cell_ext ha, y, rfl⟩
end Go.Proofs.Ytbjpkfgkmilkdaa
namespace Go.Proofs.Ytbjpkfgkmilkdaa
open Go.ChangeShapes Go.WideShapes Go.ChangeAt Go.RowKit
theorem Try.own : ownKnob Try.prog.godebug = none := by kernel_rfl
theorem Try.laidOut : laidOutB Try.prog = true := by kernel_rfl
section
variable {H : Type} {enc : TypeId × Value → H} {P : Program} {W W' : World}
theorem trodAll_keep (hl : laidOutB P = true) (hb : Below W.heap.size W W') {sp : Nat → Bool} : ∀ {ts : List TypeId} {vs : List Value} {ds : List (DataW H)} {ps : List MemPlace},
    (ts.all fun t => P.readableRec t && decide (t < P.types.size)) = true → DataW.TrodAll enc P W 0 (fun _ => true) true ts vs ds ps → (∀ p ∈ ps, p.block < W.heap.size) → (∀ p ∈ ps, sp p.block = true) →
    DataW.TrodAll enc P W' 0 sp true ts vs ds ps
  | [], vs, ds, ps, _, h, _, _ => by
    obtain ⟨rfl, rfl, rfl⟩ := trodAll_nil h
    exact trodAll_mk0
  | t :: ts, vs, ds, ps, hr, h, hlt, hs => by
    obtain ⟨v, vs', d, ds', p, q, rfl, rfl, rfl, h1, h2⟩ := trodAll_cons h
    simp only [List.all_cons, Bool.and_eq_true, decide_eq_true_eq] at hr
    refine ⟨p, q, WideElems.Trod_stays hl hr.1.1 hr.1.2 h1 (fun x hx => hb.same (hlt x (by simp [hx]))) (fun x hx => hs x (by simp [hx])), ?_, rfl⟩
    exact trodAll_keep hl hb (by simpa using hr.2) h2 (fun x hx => hlt x (by simp [hx])) (fun x hx => hs x (by simp [hx]))
theorem law_post (hl : laidOutB P = true) {f : Func} {s : ChangeSpec} {args : Array Value} {ds gs : List (DataW H)} {before : List MemPlace} {tb : TypeId}
    (hW : DataW.Whole enc P f.params.toList s.vars false W args.toList ds gs before) (hv : s.vars = []) (hfn : s.fn H (ds ++ []) = { results := [.lit (.bool true)], args := ds })
    (hres : f.resultTypes = #[tb]) (ht : P.underlying tb = some .bool) (hread : (f.params.toList.all fun t => P.readableRec t && decide (t < P.types.size)) = true) (hx : ∃ y, W' = ext W y) :
    s.post enc P f false true false false W args (.bool true) W' := by
  have hb : Below W.heap.size W W' := by
    obtain ⟨y, rfl⟩ := hx
    exact below_ext W y
  have hlt : ∀ p ∈ before, p.block < W.heap.size := fun p hp => hW.lt p hp
  have hW2 := hW
  obtain ⟨p, q, hA, hV, rfl, hfz, hnd⟩ := hW2
  rw [hv] at hV
  obtain ⟨rfl, rfl⟩ := trodVars_none hV
  simp only [List.append_nil] at hlt hW
  refine ⟨ds, [], p, [], p, [], hW, ?_, ?_, ?_, World.keptBut_mono (fun x hx => ⟨hx, .inr (.inl hx)⟩) (hb.frame (· ∈ p)), fun h => by cases h⟩
  · rw [hfn, hres]
    exact trodAll_mk1 ⟨1, by simp [DataW.trod, Value.cells, ht]⟩
  · rw [hfn]
    exact trodAll_keep hl hb hread hA hlt (fun x hx => by simpa using hlt x hx)
  · rw [hfn, hv]
    rfl
end
end Go.Proofs.Ytbjpkfgkmilkdaa
namespace Go.Proofs.Ytbjpkfgkmilkdaa
open Go.RowKit
theorem le_addk {a n : Nat} (h : a ≤ n) (k : Nat) : a ≤ n + k := Nat.le_trans h (Nat.le_add_right n k)
theorem le_alloc {a : Nat} {w : World} (h : a ≤ w.heap.size) (o : Obj) : a ≤ (w.alloc o).heap.size := by rw [World.size_alloc]; omega
theorem le_setC {a : Nat} {w : World} (h : a ≤ w.heap.size) (p : Addr) (u : Value) : a ≤ (w.setCell p u).heap.size := by rw [World.size_setCell]; exact h
theorem le_drew {a : Nat} {w : World} (h : a ≤ w.heap.size) : a ≤ w.drew.heap.size := h
structure Chg (F : List Nat) (w w' : World) : Prop where
  os : w'.os = w.os
  tape : w'.tape = w.tape
  output : w'.output = w.output
  size : w.heap.size ≤ w'.heap.size
  block : ∀ k, k < w.heap.size → k ∉ F → w'.heap[k]? = w.heap[k]?
theorem Chg.refl (F : List Nat) (w : World) : Chg F w w := ⟨rfl, rfl, rfl, Nat.le_refl _, fun _ _ _ => rfl⟩
theorem Chg.trans {F G : List Nat} {a b c : World} (h : Chg F a b) (k : Chg G b c) (hG : ∀ x ∈ G, x ∈ F ∨ a.heap.size ≤ x) : Chg F a c :=
  ⟨k.os.trans h.os, k.tape.trans h.tape, k.output.trans h.output, Nat.le_trans h.size k.size, fun i hi hF => by
    rw [k.block i (Nat.lt_of_lt_of_le hi h.size) (fun hg => by
      rcases hG i hg with h1 | h1
      · exact hF h1
      · omega), h.block i hi hF]⟩
theorem Chg.mono {F G : List Nat} {a b : World} (h : Chg F a b) (hG : ∀ x ∈ F, x ∈ G ∨ a.heap.size ≤ x) : Chg G a b :=
  ⟨h.os, h.tape, h.output, h.size, fun i hi hF => h.block i hi (fun hf => by
    rcases hG i hf with h1 | h1
    · exact hF h1
    · omega)⟩
theorem Chg.ofExt {F : List Nat} {w w' : World} (h : ∃ y, w' = ext w y) : Chg F w w' := by
  obtain ⟨y, rfl⟩ := h
  have hb := below_ext w y
  exact ⟨hb.os, hb.tape, hb.output, hb.size, fun k hk _ => hb.block k hk⟩
theorem Chg.cell {F : List Nat} {w w' : World} (h : Chg F w w') {b o : Nat} (hb : b ∉ F) (hl : b < w.heap.size) : w'.cell? ⟨b, o, none⟩ = w.cell? ⟨b, o, none⟩ := World.cell?_of_block (h.block b hl hb)
theorem Chg.alloc {F : List Nat} {a w : World} (h : Chg F a w) (o : Obj) : Chg F a (w.alloc o) := h.trans (Chg.ofExt (F := []) (alloc_ext w o)) (by simp)
theorem Chg.drew {F : List Nat} {a w : World} (h : Chg F a w) : Chg F a w.drew := h.trans (Chg.ofExt (F := []) (drew_ext w)) (by simp)
theorem Chg.setCell {F : List Nat} {a w : World} (h : Chg F a w) {p : Addr} (hp : p.block ∈ F ∨ a.heap.size ≤ p.block) (u : Value) : Chg F a (w.setCell p u) :=
  ⟨h.os, h.tape, h.output, by simpa using h.size, fun k hk hF => by
    rw [Below.heap_setCell w p u k (fun e => by
      rcases hp with h1 | h1
      · exact hF (by rw [e]; exact h1)
      · omega), h.block k hk hF]⟩
theorem Chg.setCellE {F : List Nat} {a w : World} (h : Chg F a w) {b o : Nat} {s : Option Nat} (hp : a.heap.size ≤ b) (u : Value) : Chg F a (w.setCell ⟨b, o, s⟩ u) := h.setCell (.inr hp) u
theorem Chg.extS {F : List Nat} {a w : World} (h : Chg F a w) (y : World) : Chg F a (ext w y) := h.trans (Chg.ofExt (F := []) ⟨y, rfl⟩) (by simp)
theorem Chg.isExt {F : List Nat} {w0 w w' : World} (h : Chg F w w') (h0 : ∃ y, w = ext w0 y) (hF : ∀ x ∈ F, w0.heap.size ≤ x) : ∃ y, w' = ext w0 y := by
  obtain ⟨y, rfl⟩ := h0
  have hb := below_ext w0 y
  exact Go.Proofs.Ytbjpkfgkmilkdaa.isExt ⟨h.os.trans hb.os, h.tape.trans hb.tape, h.output.trans hb.output, Nat.le_trans hb.size h.size, fun k hk => by
    rw [h.block k (Nat.lt_of_lt_of_le hk hb.size) (fun hf => by have := hF k hf; omega), hb.block k hk]⟩
theorem Chg.ofGrown {w w' : World} {row : Option Nat} {F : List Nat} (h : w.grownBy w' row) (hF : ∀ k, row = some k → k ∈ F) : Chg F w w' :=
  ⟨h.os, h.tape, h.output, h.size, fun k hk hn => h.block k hk (fun e => hn (hF k e.symm))⟩
def BoxAt (w : World) (B : Nat) (cs : Array Value) : Prop := B < w.heap.size ∧ (∀ j, w.cell? ⟨B, j, none⟩ = cs[j]?) ∧ ∀ j, w.frozen? ⟨B, j, none⟩ = false
section
variable {w w' : World} {B : Nat} {cs : Array Value}
theorem BoxAt.new (w : World) (cs : Array Value) (t : TypeId) : BoxAt (w.alloc (.cells cs t)) w.heap.size cs := ⟨by simp, fun j => by simp, fun j => frozen_of_row _ _ _ _ _ (heap_alloc_new w _)⟩
theorem BoxAt.keep (h : BoxAt w B cs) (hk : w'.heap[B]? = w.heap[B]?) (hs : w.heap.size ≤ w'.heap.size) : BoxAt w' B cs := ⟨Nat.lt_of_lt_of_le h.1 hs, fun j => (World.cell?_of_block hk).trans (h.2.1 j), fun j => (World.frozen?_of_block hk).trans (h.2.2 j)⟩
theorem BoxAt.toExt (h : BoxAt w B cs) (hx : ∃ y, w' = ext w y) : BoxAt w' B cs := by
  obtain ⟨y, rfl⟩ := hx
  exact h.keep ((below_ext w y).block B h.1) size_ext
theorem BoxAt.alloc (h : BoxAt w B cs) (o : Obj) : BoxAt (w.alloc o) B cs := h.toExt (alloc_ext w o)
theorem BoxAt.drew (h : BoxAt w B cs) : BoxAt w.drew B cs := h
theorem BoxAt.chg {F : List Nat} (h : BoxAt w B cs) (hc : Chg F w w') (hB : B ∉ F) : BoxAt w' B cs := h.keep (hc.block B h.1 hB) hc.size
theorem Chg.trans0 {F : List Nat} {a b c : World} (h : Chg F a b) (k : ∃ y, c = ext b y) : Chg F a c := h.trans (Chg.ofExt (F := []) k) (by simp)
end
abbrev VE (α : Type) := World → List Value → α → Prop
class VMono {α : Type} (E : VE α) : Prop where
  ext : ∀ {w x c d}, E w c d → E (ext w x) c d
def RV {α : Type} (size : Nat) (E : VE α) (w : World) (A : Option Addr) (ds : List α) : Prop :=
  ds ≠ [] → ∃ b o, A = some ⟨b, o, none⟩ ∧ b < w.heap.size ∧ ∀ j (h : j < ds.length), ∃ c : List Value, c.length = size ∧ (∀ i (hi : i < c.length), w.cell? ⟨b, o + j * size + i, none⟩ = some c[i]) ∧ E w c ds[j]
section
variable {α : Type} {size : Nat} {E : VE α} {w x : World} {A : Option Addr} {ds : List α}
theorem RV.ext [VMono E] (h : RV size E w A ds) : RV size E (ext w x) A ds := fun hn => by
  obtain ⟨b, o, h1, h2, h3⟩ := h hn
  refine ⟨b, o, h1, lt_ext h2, fun j hj => ?_⟩
  obtain ⟨c, hc, hr, he⟩ := h3 j hj
  exact ⟨c, hc, fun i hi => by rw [cell_ext h2]; exact hr i hi, VMono.ext he⟩
theorem RV.toExt [VMono E] {w' : World} (h : RV size E w A ds) (hx : ∃ y, w' = Go.Proofs.Ytbjpkfgkmilkdaa.ext w y) : RV size E w' A ds := by
  obtain ⟨y, rfl⟩ := hx
  exact h.ext
theorem RV.nil : RV size E w A ([] : List α) := fun h => absurd rfl h
theorem RV.get (h : RV size E w A ds) {k : Nat} (hk : k < ds.length) : ∃ b o, A = some ⟨b, o, none⟩ ∧ b < w.heap.size ∧ ∃ c : List Value, c.length = size ∧ (∀ i (hi : i < c.length), w.cell? ⟨b, o + k * size + i, none⟩ = some c[i]) ∧ E w c ds[k] := by
  obtain ⟨b, o, h1, h2, h3⟩ := h (by intro h; subst h; simp at hk)
  exact ⟨b, o, h1, h2, h3 k hk⟩
end
def vI : VE Int := fun _ c n => c = [.int .i64 n]
def vR : VE (Int × Int) := fun _ c r => c = [.int .i64 r.1, .int .i64 r.2]
def vS : VE ByteArray := fun _ c s => c = [.string s]
def vB : VE Bool := fun _ c b => c = [.bool b]
def vSl {α : Type} (size : Nat) (E : VE α) : VE (List α) := fun w c ds => ∃ A cap, c = [.slice A ds.length (ds.length + cap)] ∧ RV size E w A ds
instance : VMono vI := ⟨fun h => h⟩
instance : VMono vR := ⟨fun h => h⟩
instance : VMono vS := ⟨fun h => h⟩
instance : VMono vB := ⟨fun h => h⟩
instance {α : Type} (size : Nat) (E : VE α) [VMono E] : VMono (vSl size E) := ⟨fun ⟨A, cap, h, k⟩ => ⟨A, cap, h, k.ext⟩⟩
abbrev RI := RV 1 vI
abbrev RR := RV 2 vR
abbrev RRR := RV 1 (vSl 2 vR)
section
variable {w : World} {A : Option Addr} {k : Nat}
theorem RV.atR {xs : List (Int × Int)} (h : RR w A xs) (hk : k < xs.length) : ∃ b o, A = some ⟨b, o, none⟩ ∧ b < w.heap.size ∧ w.cell? ⟨b, o + k * 2, none⟩ = some (.int .i64 xs[k].1) ∧ w.cell? ⟨b, o + k * 2 + 1, none⟩ = some (.int .i64 xs[k].2) := by
  obtain ⟨b, o, h1, h2, c, hc, hr, he⟩ := h.get hk
  simp only [vR] at he
  subst he
  exact ⟨b, o, h1, h2, by simpa using hr 0 (by simp), by simpa using hr 1 (by simp)⟩
theorem RV.atV {α : Type} {size : Nat} {E : VE α} {xs : List (List α)} (h : RV 1 (vSl size E) w A xs) (hk : k < xs.length) : ∃ b o A' c', A = some ⟨b, o, none⟩ ∧ b < w.heap.size ∧ w.cell? ⟨b, o + k, none⟩ = some (.slice A' xs[k].length c') ∧ RV size E w A' xs[k] := by
  obtain ⟨b, o, h1, h2, c, hc, hr, he⟩ := h.get hk
  obtain ⟨A', c', rfl, hv⟩ := he
  exact ⟨b, o, A', _, h1, h2, by simpa using hr 0 (by simp), hv⟩
end
abbrev SE (α : Type) := World → List Value → α → List Nat → Prop
class SMono {α : Type} (E : SE α) : Prop where
  lt : ∀ {w c d F}, E w c d F → ∀ b ∈ F, b < w.heap.size
  keep : ∀ {w w' : World} {c d F}, E w c d F → (∀ b ∈ F, w'.heap[b]? = w.heap[b]?) → E w' c d F
def fpOf (v : Value) : List Nat := match v.ownBlock with | some b => [b] | none => []
theorem mem_fpOf {v : Value} {b : Nat} : b ∈ fpOf v ↔ v.ownBlock = some b := by
  unfold fpOf
  cases v.ownBlock <;> simp [eq_comm]
def elems {α : Type} (size : Nat) (E : SE α) (w : World) : List Value → List α → List Nat → Prop
  | vs, [], F => vs = [] ∧ F = []
  | vs, d :: ds, F => ∃ c vs' F1 F2, vs = c ++ vs' ∧ c.length = size ∧ E w c d F1 ∧ elems size E w vs' ds F2 ∧ F = F1 ++ F2
section
variable {α : Type} {size : Nat} {E : SE α} {w w' : World}
theorem elems_append : ∀ {vs us : List Value} {ds es : List α} {F G : List Nat}, elems size E w vs ds F → elems size E w us es G → elems size E w (vs ++ us) (ds ++ es) (F ++ G)
  | _, us, [], es, _, G, ⟨h1, h2⟩, k => by subst h1 h2; simpa using k
  | _, us, d :: ds, es, _, G, ⟨c, vs', F1, F2, h1, h2, h3, h4, h5⟩, k => by
    subst h1 h5
    exact ⟨c, vs' ++ us, F1, F2 ++ G, by simp, h2, h3, elems_append h4 k, by simp⟩
theorem elems_one {c : List Value} {d : α} {F : List Nat} (hc : c.length = size) (h : E w c d F) : elems size E w c [d] F := ⟨c, [], F, [], by simp, hc, h, ⟨rfl, rfl⟩, by simp⟩
theorem elems_length : ∀ {vs : List Value} {ds : List α} {F : List Nat}, elems size E w vs ds F → vs.length = ds.length * size
  | _, [], _, ⟨h1, _⟩ => by simp [h1]
  | _, d :: ds, _, ⟨c, vs', F1, F2, h1, h2, _, h4, _⟩ => by
    have := elems_length h4
    subst h1
    simp only [List.length_append, List.length_cons, h2, this, Nat.add_mul]
    omega
theorem elems_keep [SMono E] : ∀ {vs : List Value} {ds : List α} {F : List Nat}, elems size E w vs ds F → (∀ b ∈ F, w'.heap[b]? = w.heap[b]?) → elems size E w' vs ds F
  | _, [], _, h, _ => h
  | _, d :: ds, _, ⟨c, vs', F1, F2, h1, h2, h3, h4, h5⟩, hk => by
    subst h5
    exact ⟨c, vs', F1, F2, h1, h2, SMono.keep h3 (fun b hb => hk b (by simp [hb])), elems_keep h4 (fun b hb => hk b (by simp [hb])), rfl⟩
theorem elems_lt [SMono E] : ∀ {vs : List Value} {ds : List α} {F : List Nat}, elems size E w vs ds F → ∀ b ∈ F, b < w.heap.size
  | _, [], _, ⟨_, h2⟩, b, hb => by subst h2; simp at hb
  | _, d :: ds, _, ⟨c, vs', F1, F2, h1, h2, h3, h4, h5⟩, b, hb => by
    subst h5
    rcases List.mem_append.1 hb with h | h
    · exact SMono.lt h3 b h
    · exact elems_lt h4 b h
theorem elems_at : ∀ {vs : List Value} {ds : List α} {F : List Nat} {k : Nat} (_ : elems size E w vs ds F) (hk : k < ds.length), ∃ c F1 F2 F3, (vs.drop (k * size)).take size = c ∧ c.length = size ∧ E w c ds[k] F2 ∧ F = F1 ++ F2 ++ F3
  | _, d :: ds, _, 0, ⟨c, vs', F1, F2, h1, h2, h3, _, h5⟩, _ => by
    subst h1 h5
    exact ⟨c, [], F1, F2, by simp [h2], h2, h3, by simp⟩
  | _, d :: ds, _, k + 1, ⟨c, vs', F1, F2, h1, h2, h3, h4, h5⟩, hk => by
    subst h1 h5
    obtain ⟨c', G1, G2, G3, e1, e2, e3, e4⟩ := elems_at (k := k) h4 (by simpa using hk)
    refine ⟨c', F1 ++ G1, G2, G3, ?_, e2, by simpa using e3, by simp [e4]⟩
    rw [← e1, show (k + 1) * size = c.length + k * size by rw [h2, Nat.add_mul]; omega, List.drop_append, List.drop_eq_nil_of_le (Nat.le_add_right _ _)]
    simp
end
def SV {α : Type} (te size : Nat) (E : SE α) (w : World) (v : Value) (ds : List α) (F : List Nat) : Prop :=
  ∃ vs F2, w.ownsRow 0 te size v ds.length vs ∧ elems size E w vs ds F2 ∧ F = fpOf v ++ F2
section
variable {α : Type} {te size : Nat} {E : SE α} {w w' : World} {v : Value} {ds : List α} {F : List Nat}
theorem ownsRow_keepB {n : Nat} {vs : List Value} (h : w.ownsRow 0 te size v n vs) (hk : ∀ b ∈ fpOf v, w'.heap[b]? = w.heap[b]?) : w'.ownsRow 0 te size v n vs := by
  refine ⟨h.1, ?_⟩
  rcases h.2 with hn | ⟨g, cap, cur, rfl, hb, hg, rest⟩
  · exact .inl hn
  · exact .inr ⟨g, cap, cur, rfl, hb, by rw [hk g (mem_fpOf.2 rfl)]; exact hg, rest⟩
theorem SV.lt [SMono E] (h : SV te size E w v ds F) : ∀ b ∈ F, b < w.heap.size := by
  obtain ⟨vs, F2, h1, h2, rfl⟩ := h
  intro b hb
  rcases List.mem_append.1 hb with h | h
  · exact (h1.lt b (mem_fpOf.1 h)).2
  · exact elems_lt h2 b h
theorem SV.keep [SMono E] (h : SV te size E w v ds F) (hk : ∀ b ∈ F, w'.heap[b]? = w.heap[b]?) : SV te size E w' v ds F := by
  obtain ⟨vs, F2, h1, h2, rfl⟩ := h
  exact ⟨vs, F2, ownsRow_keepB h1 (fun b hb => hk b (by simp [hb])), elems_keep h2 (fun b hb => hk b (by simp [hb])), rfl⟩
theorem SV.ext [SMono E] {x : World} (h : SV te size E w v ds F) : SV te size E (ext w x) v ds F := h.keep fun b hb => (below_ext w x).block b (h.lt b hb)
theorem SV.toExt [SMono E] (h : SV te size E w v ds F) (hx : ∃ y, w' = Go.Proofs.Ytbjpkfgkmilkdaa.ext w y) : SV te size E w' v ds F := by
  obtain ⟨y, rfl⟩ := hx
  exact h.ext
theorem SV.chg [SMono E] {G : List Nat} (h : SV te size E w v ds F) (hc : Chg G w w') (hd : ∀ b ∈ F, b ∉ G) : SV te size E w' v ds F := h.keep fun b hb => hc.block b (h.lt b hb) (hd b hb)
theorem SV.form (h : SV te size E w v ds F) : ∃ A cap, v = .slice A ds.length cap ∧ ds.length ≤ cap ∧ Hid (cap ≤ maxLen) := by
  obtain ⟨vs, F2, h1, _, _⟩ := h
  rcases h1.2 with ⟨rfl, hn⟩ | ⟨g, cap, cur, rfl, _, _, h3, h4, _⟩
  · exact ⟨none, 0, by rw [hn], by omega, Lib.hid (by simp [maxLen])⟩
  · exact ⟨_, cap, rfl, h3, h4⟩
theorem SV.nil : SV te size E w (.slice none 0 0) ([] : List α) [] := ⟨[], [], World.ownsRow_nil w 0 te size, ⟨rfl, rfl⟩, rfl⟩
theorem SV.block (h : SV te size E w v ds F) (hn : ds ≠ []) : ∃ g cap, v = .slice (some ⟨g, 0, none⟩) ds.length cap ∧ g ∈ F ∧ ds.length ≤ cap ∧ Hid (cap ≤ maxLen) := by
  obtain ⟨vs, F2, h1, _, rfl⟩ := h
  rcases h1.2 with ⟨rfl, h0⟩ | ⟨g, cap, cur, rfl, _, _, h3, h4, _⟩
  · exact absurd (List.eq_nil_of_length_eq_zero h0) hn
  · exact ⟨g, cap, rfl, by simp [mem_fpOf, Value.ownBlock], h3, h4⟩
theorem SV.view {V : VE α} (h : SV te size E w v ds F) (hV : ∀ c d F, E w c d F → V w c d) : ∃ A cap, v = .slice A ds.length cap ∧ ds.length ≤ cap ∧ Hid (cap ≤ maxLen) ∧ RV size V w A ds := by
  obtain ⟨vs, F2, h1, h2, _⟩ := h
  rcases h1.2 with ⟨rfl, h0⟩ | ⟨g, cap, cur, hv, _, hg, h3, h4, h5, h6⟩
  · obtain rfl := List.eq_nil_of_length_eq_zero h0
    exact ⟨none, 0, rfl, by simp, Lib.hid (by simp [maxLen]), RV.nil⟩
  · refine ⟨_, cap, hv, h3, h4, fun hn => ⟨g, 0, rfl, (Array.getElem?_eq_some_iff.1 hg).1, fun j hj => ?_⟩⟩
    obtain ⟨c, F1, F2, F3, e1, e2, e3, _⟩ := elems_at h2 hj
    refine ⟨c, e2, fun i hi => ?_, hV _ _ _ e3⟩
    subst hv
    have hm : (j + 1) * size ≤ ds.length * size := Nat.mul_le_mul_right _ hj
    rw [Nat.add_mul] at hm
    rw [show 0 + j * size + i = j * size + i by omega, h1.cellAt _ (by omega)]
    rw [← List.getElem?_eq_getElem hi]
    conv => rhs; rw [← e1]
    rw [List.getElem?_take, if_pos (by omega), List.getElem?_drop]
theorem SV.toView {V : VE α} {A : Option Addr} {n c : Nat} (h : SV te size E w (.slice A n c) ds F) (hV : ∀ c d F, E w c d F → V w c d) : RV size V w A ds := by
  obtain ⟨A', c', e, _, _, r⟩ := h.view hV
  injection e with e
  rw [e]; exact r
end
def sI : SE Int := fun _ c n F => c = [.int .i64 n] ∧ F = []
def sR : SE (Int × Int) := fun _ c r F => c = [.int .i64 r.1, .int .i64 r.2] ∧ F = []
def sS : SE ByteArray := fun _ c s F => c = [.string s] ∧ F = []
def sB : SE Bool := fun _ c b F => c = [.bool b] ∧ F = []
def sSl {α : Type} (te size : Nat) (E : SE α) : SE (List α) := fun w c ds F => ∃ v, c = [v] ∧ SV te size E w v ds F
instance : SMono sI := ⟨fun h b hb => by rw [h.2] at hb; simp at hb, fun h _ => h⟩
instance : SMono sR := ⟨fun h b hb => by rw [h.2] at hb; simp at hb, fun h _ => h⟩
instance : SMono sS := ⟨fun h b hb => by rw [h.2] at hb; simp at hb, fun h _ => h⟩
instance : SMono sB := ⟨fun h b hb => by rw [h.2] at hb; simp at hb, fun h _ => h⟩
instance {α : Type} (te size : Nat) (E : SE α) [SMono E] : SMono (sSl te size E) := ⟨fun ⟨_, _, h⟩ => h.lt, fun ⟨v, e, h⟩ hk => ⟨v, e, h.keep hk⟩⟩
theorem sR_v {w : World} (c : List Value) (d : Int × Int) (F : List Nat) (h : sR w c d F) : vR w c d := h.1
theorem sSl_v {α : Type} {te size : Nat} {E : SE α} {V : VE α} {w : World} (hV : ∀ c d F, E w c d F → V w c d) (c : List Value) (d : List α) (F : List Nat) (h : sSl te size E w c d F) : vSl size V w c d := by
  obtain ⟨v, rfl, h⟩ := h
  obtain ⟨A, cap, rfl, hc, _, hv⟩ := h.view hV
  exact ⟨A, cap - d.length, by rw [Nat.add_sub_cancel' hc], hv⟩
class SPlain {α : Type} (E : SE α) : Prop where
  none : ∀ {w c d F}, E w c d F → F = []
instance : SPlain sI := ⟨fun h => h.2⟩
instance : SPlain sR := ⟨fun h => h.2⟩
instance : SPlain sS := ⟨fun h => h.2⟩
instance : SPlain sB := ⟨fun h => h.2⟩
theorem elems_plain {α : Type} {size : Nat} {E : SE α} [SPlain E] {w : World} : ∀ {vs : List Value} {ds : List α} {F : List Nat}, elems size E w vs ds F → F = []
  | _, [], _, ⟨_, h⟩ => h
  | _, _ :: _, _, ⟨_, _, _, _, _, _, h3, h4, h5⟩ => by rw [h5, SPlain.none h3, elems_plain h4]; rfl
theorem SV.plainF {α : Type} {te size : Nat} {E : SE α} [SPlain E] {w : World} {v : Value} {ds : List α} {F : List Nat} (h : SV te size E w v ds F) : F = fpOf v := by
  obtain ⟨vs, F2, _, h2, rfl⟩ := h
  rw [elems_plain h2]; simp
theorem fpOf_nodup (v : Value) : (fpOf v).Nodup := by unfold fpOf; split <;> simp
theorem SV.nodup {α : Type} {te size : Nat} {E : SE α} [SPlain E] {w : World} {v : Value} {ds : List α} {F : List Nat} (h : SV te size E w v ds F) : F.Nodup := by rw [h.plainF]; exact fpOf_nodup v
def SlT (P : Program) (t te size bytes : Nat) (z : Value) : Prop :=
  P.underlying t = some (.slice te) ∧ (P.info? te).map (fun i => (i.zero, i.size, i.bytes)) = some (some z, size, bytes) ∧ z.cells.size = size ∧ 0 < size
section
variable {P : Program} (w : World)
theorem run_appS {α : Type} {E : SE α} [SMono E] {t ty te size bytes : Nat} {z : Value} (hT : SlT P t te size bytes z) {v : Value} {ds : List α} {F : List Nat} (hS : SV te size E w v ds F) (hN : F.Nodup)
    {ad : Addr} {m c : Nat} {cs : List Value} (hnews : ∀ j u, cs[j]? = some u → w.cell? (ad.add j) = some u) (h1 : ∀ u ∈ cs, u.oneCell' = true)
    {es : List α} {G : List Nat} (hm : m = es.length) (hE : elems size E w cs es G) (hN2 : (F ++ G).Nodup) (hlen : ds.length + m ≤ 2000000000) (hby : bytes ≤ 60000) :
    ∃ v' w' F', (Builtin.append_ #[t, t] ty #[v, .slice (some ad) m c]).run P w = .ok v' w' ∧ SV te size E w' v' (ds ++ es) F' ∧ Chg F w w' ∧ F'.Nodup ∧ (∀ b ∈ F', b ∈ F ∨ b ∈ G ∨ w.heap.size ≤ b) := by
  obtain ⟨ht, hi, hzs, hsz⟩ := hT
  obtain ⟨i, hi, hz, hs1, hs2⟩ := info_parts hi
  obtain ⟨vs, F2, ho, hel, rfl⟩ := hS
  subst hm
  have hl := elems_length hE
  have hb : (ds.length + es.length) * bytes ≤ 140737488355328 := Nat.le_trans (Nat.mul_le_mul hlen hby) (by omega)
  obtain ⟨v', w', hr, h2, h3, _, h5⟩ := run_append_own_at (P := P) w 0 t ty te i z size bytes ht hi hz hs1 hs2 hzs hsz v ds.length vs ho ad es.length c cs hl hnews h1 (by simp only [maxLen]; omega) hb (Nat.zero_le _)
  have hc : Chg (fpOf v) w w' := Chg.ofGrown h3 fun k hk => mem_fpOf.2 hk
  have hd : ∀ b, b ∈ F2 ∨ b ∈ G → b ∉ fpOf v := by
    intro b hb hv
    rw [List.append_assoc, List.nodup_append] at hN2
    exact hN2.2.2 b hv b (by simpa using hb) rfl
  have hF2 : elems size E w' vs ds F2 := elems_keep hel fun b hb => hc.block b (elems_lt hel b hb) (hd b (.inl hb))
  have hG : elems size E w' cs es G := elems_keep hE fun b hb => hc.block b (elems_lt hE b hb) (hd b (.inr hb))
  refine ⟨v', w', fpOf v' ++ (F2 ++ G), hr, ⟨vs ++ cs, F2 ++ G, by simpa using h2, elems_append hF2 hG, rfl⟩, hc.mono (fun x hx => .inl (by simp [hx])), ?_, ?_⟩
  · rw [List.append_assoc, List.nodup_append] at hN2
    rw [List.nodup_append]
    refine ⟨fpOf_nodup v', hN2.2.1, fun a ha b hb => ?_⟩
    rintro rfl
    rcases h5 with h5 | h5
    · exact hN2.2.2 a (by rw [mem_fpOf] at ha ⊢; rw [← h5]; exact ha) a hb rfl
    · rw [mem_fpOf, h5] at ha
      have hlt : a < w.heap.size := by
        rcases List.mem_append.1 hb with h | h
        · exact elems_lt hel a h
        · exact elems_lt hE a h
      injection ha with ha
      omega
  · intro b hb
    rcases List.mem_append.1 hb with h | h
    · rw [mem_fpOf] at h
      rcases h5 with h5 | h5
      · exact .inl (by simp [mem_fpOf, ← h5, h])
      · rw [h5] at h
        injection h with h
        exact .inr (.inr (by omega))
    · rcases List.mem_append.1 h with h | h
      · exact .inl (by simp [h])
      · exact .inr (.inl h)
theorem wp_appS {o : Oper} {a : Act} {K : Act → World → Prop} {Q : Exit → Act → World → Prop} (s x : Operand) (t : TypeId)
    (ho : o.op = .call { callee := .builtin .append, args := #[s, x], argTypes := #[t, t] })
    {α : Type} {E : SE α} [SMono E] {te size bytes : Nat} {z : Value} (hT : SlT P t te size bytes z) {v : Value} {ds : List α} {F : List Nat} (hs : a.eval s = v) (hS : SV te size E w v ds F) (hN : F.Nodup)
    {ad : Addr} {m c : Nat} {cs : List Value} (hx : a.eval x = .slice (some ad) m c) (hnews : ∀ j u, cs[j]? = some u → w.cell? (ad.add j) = some u) (h1 : ∀ u ∈ cs, u.oneCell' = true)
    {es : List α} {G : List Nat} (hm : m = es.length) (hE : elems size E w cs es G) (hN2 : (F ++ G).Nodup) (hlen : ds.length + m ≤ 2000000000) (hby : bytes ≤ 60000)
    (h : ∀ v' w' F', SV te size E w' v' (ds ++ es) F' → Chg F w w' → F'.Nodup → (∀ b ∈ F', b ∈ F ∨ b ∈ G ∨ w.heap.size ≤ b) → K (a.put o.dst v') w') : o.wp P a w K Q := by
  obtain ⟨v', w', F', hr, h2, h3, h4, h5⟩ := run_appS (P := P) (ty := o.type) w hT hS hN (c := c) hnews h1 hm hE hN2 hlen hby
  unfold Oper.wp execOp
  simp only [ho, resolve, invoke, builtin, Sem.run_bind, Sem.run_pure, Result.andThen_ok, List.map_toArray, List.map_cons, List.map_nil, hs, hx, hr]
  exact h v' w' F' h2 h3 h4 h5
theorem wpList_appS {ops : Array Oper} {rest : List Oper} {o : Oper} {a : Act} {Q : Exit → Act → World → Prop} (hgd : o.guard = none) (s x : Operand) (t : TypeId)
    (ho : o.op = .call { callee := .builtin .append, args := #[s, x], argTypes := #[t, t] })
    {α : Type} {E : SE α} [SMono E] {te size bytes : Nat} {z : Value} (hT : SlT P t te size bytes z) {v : Value} {ds : List α} {F : List Nat} (hs : a.eval s = v) (hS : SV te size E w v ds F) (hN : F.Nodup)
    {ad : Addr} {m c : Nat} {cs : List Value} (hx : a.eval x = .slice (some ad) m c) (hnews : ∀ j u, cs[j]? = some u → w.cell? (ad.add j) = some u) (h1 : ∀ u ∈ cs, u.oneCell' = true)
    {es : List α} {G : List Nat} (hm : m = es.length) (hE : elems size E w cs es G) (hN2 : (F ++ G).Nodup) (hlen : ds.length + m ≤ 2000000000) (hby : bytes ≤ 60000)
    (h : ∀ v' w' F', SV te size E w' v' (ds ++ es) F' → Chg F w w' → F'.Nodup → (∀ b ∈ F', b ∈ F ∨ b ∈ G ∨ w.heap.size ≤ b) → wpList P ops Q rest (a.put o.dst v') w') : wpList P ops Q (o :: rest) a w :=
  wpList_plain hgd fun _ hK => wp_appS w s x t ho hT hs hS hN hx hnews h1 hm hE hN2 hlen hby fun v' w' F' h2 h3 h4 h5 => hK _ _ (h v' w' F' h2 h3 h4 h5)
theorem elems_replicate {α : Type} {size : Nat} {E : SE α} {c : List Value} {d : α} (hc : c.length = size) (hE : E w c d []) : ∀ n : Nat, elems size E w (List.replicate n c).flatten (List.replicate n d) []
  | 0 => ⟨rfl, rfl⟩
  | n + 1 => ⟨c, (List.replicate n c).flatten, [], [], by simp [List.replicate_succ], hc, hE, elems_replicate hc hE n, rfl⟩
theorem toList_madeCells (z : Array Value) (n : Nat) : (madeCells z (n * z.size)).toList = (List.replicate n z.toList).flatten := by
  induction n with
  | zero => simp [madeCells]
  | succ n ih =>
    rw [List.replicate_succ', List.flatten_append, ← ih]
    apply List.ext_getElem?
    intro i
    simp only [madeCells, List.getElem?_append, List.flatten_cons, List.flatten_nil, List.append_nil, Nat.add_mul, Nat.one_mul]
    by_cases h : i < n * z.size
    · simp [h, Nat.lt_of_lt_of_le h (Nat.le_add_right _ _)]
    · by_cases h2 : i < n * z.size + z.size
      · have h3 : i % z.size = i - n * z.size := by
          rw [show i = (i - n * z.size) + z.size * n by rw [Nat.mul_comm z.size n]; omega, Nat.add_mul_mod_self_left, Nat.mod_eq_of_lt (by omega)]
          rw [Nat.mul_comm z.size n]; omega
        have h4 : i - n * z.size < z.size := by omega
        simp [h, h2, h3, h4]
      · simp [h, h2]
        omega
theorem wpList_makeS {ops : Array Oper} {rest : List Oper} {o : Oper} {a : Act} {Q : Exit → Act → World → Prop} (hgd : o.guard = none) (l c : Operand) (t : TypeId) (hop : o.op = Op.makeSlice t l c)
    {α : Type} {E : SE α} {te size bytes : Nat} {z : Value} (hT : SlT P t te size bytes z) {n : Nat} (hl : a.eval l = .int .i64 (n : Int)) (hc : a.eval c = .int .i64 (n : Int)) {d : α} (hE : ∀ w, E w z.cells.toList d []) (hlen : n ≤ 2000000000) (hby : bytes ≤ 60000)
    (h : ∀ w', SV te size E w' (.slice (some ⟨w.heap.size, 0, none⟩) n n) (List.replicate n d) [w.heap.size] → (∃ y, w' = ext w y) → w.heap.size < w'.heap.size → wpList P ops Q rest (a.put o.dst (.slice (some ⟨w.heap.size, 0, none⟩) n n)) w') : wpList P ops Q (o :: rest) a w := by
  obtain ⟨ht, hi, hzs, hsz⟩ := hT
  obtain ⟨i, hi, hz, hs1, hs2⟩ := info_parts hi
  have hb : i.bytes * n ≤ 281474976710656 := by rw [hs2]; exact Nat.le_trans (Nat.mul_le_mul hby hlen) (by omega)
  refine wpList_make_full w hgd l c t hop 0 te i z size ht hi hz hs1 .i64 .i64 n n n hl hc rfl rfl hb (by simp only [maxLen]; omega) (Nat.zero_le _) ?_
  intro w' h1 h2
  have hx : Chg [] w w' := Chg.ofGrown h2 fun k hk => by cases hk
  refine h w' ⟨_, [], by simpa using h1, ?_, rfl⟩ (hx.isExt (refl_ext w) (by simp)) (h1.lt _ rfl).2
  rw [← hzs, toList_madeCells]
  exact elems_replicate w' (by simp [hzs]) (hE w') n
end
section
variable {w : World} {te size : Nat}
theorem SV.cell {α : Type} {E : SE α} {ds : List α} {g cap n : Nat} {F : List Nat} (h : SV te size E w (.slice (some ⟨g, 0, none⟩) n cap) ds F) (hn : ds.length = n) {j : Nat} (hj : j < n * size) : (∃ u, w.cell? ⟨g, j, none⟩ = some u) ∧ w.frozen? ⟨g, j, none⟩ = false ∧ g < w.heap.size := by
  subst hn
  obtain ⟨vs, F2, h1, h2, _⟩ := h
  refine ⟨?_, h1.frozenAt j, (h1.lt g rfl).2⟩
  rw [h1.cellAt j hj]
  have := h1.1
  exact ⟨_, List.getElem?_eq_getElem (by omega)⟩
theorem elems_set {α : Type} {E : SE α} [SPlain E] {c : List Value} {d : α} (hc : c.length = size) (hE : E w c d []) : ∀ {vs : List Value} {ds : List α} {F : List Nat} {k : Nat}, elems size E w vs ds F → k < ds.length → elems size E w (vs.take (k * size) ++ c ++ vs.drop (k * size + size)) (ds.set k d) F
  | _, d' :: ds, _, 0, ⟨c', vs', F1, F2, h1, h2, h3, h4, h5⟩, _ => by
    subst h1
    refine ⟨c, vs', [], F2, by simp [← h2], hc, hE, h4, ?_⟩
    rw [h5, SPlain.none h3]
  | _, d' :: ds, _, k + 1, ⟨c', vs', F1, F2, h1, h2, h3, h4, h5⟩, hk => by
    subst h1
    refine ⟨c', _, F1, F2, ?_, h2, h3, elems_set hc hE (k := k) h4 (by simpa using hk), h5⟩
    have e : (k + 1) * size = c'.length + k * size := by rw [h2, Nat.add_mul]; omega
    rw [e, Nat.add_assoc, List.take_length_add_append, List.drop_length_add_append]
    simp
end
theorem SV.set2 {α : Type} {te : Nat} {w : World} {E : SE α} [SPlain E] [SMono E] {ds : List α} {g cap n : Nat} {F : List Nat} (h : SV te 2 E w (.slice (some ⟨g, 0, none⟩) n cap) ds F) (hn : ds.length = n) {k : Nat} (hk : k < n) {u v : Value} {d : α} (hE : ∀ w, E w [u, v] d []) :
    SV te 2 E ((w.setCell ⟨g, k * 2, none⟩ u).setCell ⟨g, k * 2 + 1, none⟩ v) (.slice (some ⟨g, 0, none⟩) n cap) (ds.set k d) F ∧ Chg [g] w ((w.setCell ⟨g, k * 2, none⟩ u).setCell ⟨g, k * 2 + 1, none⟩ v) := by
  subst hn
  have hF := h.plainF
  obtain ⟨vs, F2, h1, h2, _⟩ := h
  obtain ⟨h3, h4⟩ := h1.stored (k * 2) u
  obtain ⟨h3', h4'⟩ := h3.stored (k * 2 + 1) v
  have h0 := elems_plain h2
  subst h0
  refine ⟨⟨(vs.set (k * 2) u).set (k * 2 + 1) v, [], by simpa using h3', ?_, by simpa using hF⟩, (Chg.ofGrown h4 fun k hk => by simpa using hk.symm).trans (Chg.ofGrown (F := [g]) h4' fun k hk => by simpa using hk.symm) (fun x hx => .inl hx)⟩
  have hl := elems_length h2
  have hvk : k * 2 + 1 < vs.length := by omega
  have h5 := elems_set (size := 2) (w := w) (c := [u, v]) rfl (hE w) h2 hk
  have e : vs.take (k * 2) ++ [u, v] ++ vs.drop (k * 2 + 2) = (vs.set (k * 2) u).set (k * 2 + 1) v := by
    apply List.ext_getElem
    · simp; omega
    · intro i h1 h2
      simp only [List.getElem_append, List.getElem_set, List.length_append, List.length_take, List.length_cons, List.length_nil]
      by_cases c1 : i < k * 2
      · have : i < min (k * 2) vs.length := by omega
        simp [this, show i < min (k * 2) vs.length + (0 + 1 + 1) by omega, show ¬ k * 2 + 1 = i by omega, show ¬ k * 2 = i by omega]
      · by_cases c2 : i = k * 2
        · subst c2
          simp [show ¬ k * 2 < min (k * 2) vs.length by omega, show k * 2 < min (k * 2) vs.length + (0 + 1 + 1) by omega, show k * 2 - min (k * 2) vs.length = 0 by omega]
        · by_cases c3 : i = k * 2 + 1
          · subst c3
            simp [show ¬ k * 2 + 1 < min (k * 2) vs.length by omega, show k * 2 + 1 < min (k * 2) vs.length + (0 + 1 + 1) by omega, show k * 2 + 1 - min (k * 2) vs.length = 1 by omega]
          · simp [show ¬ i < min (k * 2) vs.length + (0 + 1 + 1) by omega, show ¬ k * 2 + 1 = i by omega, show ¬ k * 2 = i by omega]
            congr 1
            omega
  rw [e] at h5
  exact elems_keep h5 (by simp)
theorem SV.empty {α : Type} {te size : Nat} {E : SE α} (w : World) : SV te size E (w.alloc (.cells #[] te)) (.slice (some ⟨w.heap.size, 0, none⟩) 0 0) ([] : List α) [w.heap.size] :=
  ⟨[], [], ⟨by simp, .inr ⟨w.heap.size, 0, #[], rfl, Nat.zero_le _, heap_alloc_new w _, Nat.le_refl _, by simp [maxLen], by simp, by simp⟩⟩, ⟨rfl, rfl⟩, rfl⟩
theorem newer {w0 w : World} {F F' : List Nat} (hF : ∀ b ∈ F, w0.heap.size ≤ b) (hw : w0.heap.size ≤ w.heap.size) (h : ∀ b ∈ F', b ∈ F ∨ w.heap.size ≤ b) : ∀ b ∈ F', w0.heap.size ≤ b := fun b hb => by
  rcases h b hb with h1 | h1
  · exact hF b h1
  · omega
theorem size_of_ext {w0 w : World} (h : ∃ y, w = ext w0 y) : w0.heap.size ≤ w.heap.size := by
  obtain ⟨y, rfl⟩ := h
  exact size_ext
theorem x'a (F : List Nat) (w : World) : Chg F w w := Chg.refl F w
theorem x'b (n : Nat) : n ≤ n := Nat.le_refl n
theorem x'c {F : List Nat} {w w' : World} (h : ∃ y, w' = ext w y) : Chg F w w' := Chg.ofExt h
theorem x'd {F : List Nat} {a b c : World} (h : Chg F a b) (k : ∃ y, c = ext b y) : Chg F a c := Chg.trans0 h k
theorem x'e {F : List Nat} {a w : World} (h : Chg F a w) (y : World) : Chg F a (ext w y) := Chg.extS h y
theorem x'f {F : List Nat} {a w : World} (h : Chg F a w) (o : Obj) : Chg F a (w.alloc o) := Chg.alloc h o
theorem x'g {F : List Nat} {a w : World} (h : Chg F a w) : Chg F a w.drew := Chg.drew h
theorem x'h {F : List Nat} {a w : World} (h : Chg F a w) {b o : Nat} {s : Option Nat} (hp : a.heap.size ≤ b) (u : Value) : Chg F a (w.setCell ⟨b, o, s⟩ u) := Chg.setCellE h hp u
theorem x'i {a n : Nat} (h : a ≤ n) (k : Nat) : a ≤ n + k := le_addk h k
theorem x'j {b : Nat} {w x : World} (h : b ≤ w.heap.size) : b ≤ (ext w x).heap.size := le_ext h
theorem x'k {a : Nat} {w : World} (h : a ≤ w.heap.size) (o : Obj) : a ≤ (w.alloc o).heap.size := le_alloc h o
theorem x'l {a : Nat} {w : World} (h : a ≤ w.heap.size) (p : Addr) (u : Value) : a ≤ (w.setCell p u).heap.size := le_setC h p u
theorem x'm {a : Nat} {w : World} (h : a ≤ w.heap.size) : a ≤ w.drew.heap.size := le_drew h
theorem x'n {a b : Nat} (h : a < b) : a ≤ b := Nat.le_of_lt h
theorem x'z {w w' : World} (h : Chg [] w w') : ∃ y, w' = ext w y := Chg.isExt (F := []) h (refl_ext _) (by simp)
end Go.Proofs.Ytbjpkfgkmilkdaa
namespace Go.Proofs.Ytbjpkfgkmilkdaa
open Go.ChangeShapes Go.WideShapes Go.ChangeAt Go.RowKit Go.Deep
def I64 (n : Int) : Prop := -9223372036854775808 ≤ n ∧ n ≤ 9223372036854775807
def OpenE (P : Program) (te size : Nat) {α : Type} (E : VE α) (Q : α → Prop) : Prop :=
  P.cellsOf te = size ∧ ∀ (H : Type) (enc : TypeId × Value → H) (w : World) (base : Nat) (spare : Nat → Bool) (held : Bool) (n : Nat) (c : List Value) (y : DataW H × List MemPlace),
    DataW.trod enc P w base spare held n te c = some y → ∃ d, E w c d ∧ Q d
def vP {α β : Type} (s0 : Nat) (E0 : VE α) (E1 : VE β) : VE (α × β) := fun w c d => ∃ c0 c1, c = c0 ++ c1 ∧ c0.length = s0 ∧ E0 w c0 d.1 ∧ E1 w c1 d.2
def sP {α β : Type} (s0 : Nat) (E0 : SE α) (E1 : SE β) : SE (α × β) := fun w c d F => ∃ c0 c1 F0 F1, c = c0 ++ c1 ∧ c0.length = s0 ∧ E0 w c0 d.1 F0 ∧ E1 w c1 d.2 F1 ∧ F = F0 ++ F1
instance {α β : Type} (s0 : Nat) (E0 : VE α) (E1 : VE β) [VMono E0] [VMono E1] : VMono (vP s0 E0 E1) := ⟨fun ⟨c0, c1, h1, h2, h3, h4⟩ => ⟨c0, c1, h1, h2, VMono.ext h3, VMono.ext h4⟩⟩
instance {α β : Type} (s0 : Nat) (E0 : SE α) (E1 : SE β) [SMono E0] [SMono E1] : SMono (sP s0 E0 E1) :=
  ⟨fun ⟨c0, c1, F0, F1, _, _, h3, h4, h5⟩ b hb => by
    subst h5
    rcases List.mem_append.1 hb with h | h
    · exact SMono.lt h3 b h
    · exact SMono.lt h4 b h,
   fun ⟨c0, c1, F0, F1, h1, h2, h3, h4, h5⟩ hk => by
    subst h5
    exact ⟨c0, c1, F0, F1, h1, h2, SMono.keep h3 fun b hb => hk b (by simp [hb]), SMono.keep h4 fun b hb => hk b (by simp [hb]), rfl⟩⟩
section
variable {P : Program}
theorem openInt {t : Nat} (ht : P.underlying t = some (.int .i64)) (hc : P.cellsOf t = 1) : OpenE P t 1 vI I64 := ⟨hc, fun H enc w base spare held n c y h => by
  obtain ⟨m, rfl, _, hw⟩ := DataW.trod_int ht h
  refine ⟨m, rfl, ?_⟩
  simp [Lit.wf, IntKind.min, IntKind.max, IntKind.signed, IntKind.bits] at hw
  exact ⟨by omega, by omega⟩⟩
theorem addr_lit {a : Addr} {j : Nat} (hs : a.spot = none) : a.add j = ⟨a.block, a.off + j, none⟩ := by
  unfold Addr.add
  split
  · rename_i h; subst h; cases a; simp_all
  · rfl
theorem spot_of_cell {w : World} {a : Addr} {u : Value} (h : w.cell? a = some u) : a.spot = none := by
  unfold World.cell? at h
  split at h
  · cases hs : a.spot with
    | none => rfl
    | some _ => simp [hs] at h
  · simp at h
theorem openSl {α : Type} {t te size : Nat} {E : VE α} {Q : α → Prop} (ht : P.underlying t = some (.slice te)) (hc : P.cellsOf t = 1) (hz : 0 < size) (hO : OpenE P te size E Q) : OpenE P t 1 (vSl size E) (fun l => l.length ≤ maxLen ∧ ∀ x ∈ l, Q x) := ⟨hc, fun H enc w base spare held n c y h => by
  obtain ⟨hce, hO⟩ := hO
  rcases open_slice ht h with ⟨rfl, _⟩ | ⟨a, len, cap, m, n', D, Pl, rfl, hb, hl, hm, hmm, _, hx⟩
  · exact ⟨[], ⟨none, 0, rfl, RV.nil⟩, by simp [maxLen], by simp⟩
  · have hlm : len ≤ m := by rw [hmm]; split <;> omega
    have each : ∀ i, i < len → ∃ d, (∃ c : List Value, c.length = size ∧ (∀ j (hj : j < c.length), w.cell? ((a.add (i * size)).add j) = some c[j]) ∧ E w c d) ∧ Q d := fun i hi => by
      obtain ⟨cs', h1, h2⟩ := hx i (by omega)
      rw [hce] at h1
      obtain ⟨_, hcl, hat⟩ := World.cells?_some h1
      obtain ⟨d, hd, hq⟩ := hO _ _ _ _ _ _ _ _ _ h2
      exact ⟨d, ⟨cs', hcl, fun j hj => by rw [hat j (by omega)]; exact List.getElem?_eq_getElem hj, hd⟩, hq⟩
    obtain ⟨f, hf⟩ := choose_lt (α := Option α) (n := len) (p := fun i o => ∃ d, o = some d ∧ (∃ c : List Value, c.length = size ∧ (∀ j (hj : j < c.length), w.cell? ((a.add (i * size)).add j) = some c[j]) ∧ E w c d) ∧ Q d) (fun i hi => by
      obtain ⟨d, h1, h2⟩ := each i hi
      exact ⟨some d, d, rfl, h1, h2⟩)
    have hl2 : ∃ ds : List α, ds.length = len ∧ ∀ i (hi : i < ds.length), f i = some ds[i] := by
      have : ∀ k, k ≤ len → ∃ ds : List α, ds.length = k ∧ ∀ i (hi : i < ds.length), f i = some ds[i] := by
        intro k
        induction k with
        | zero => exact fun _ => ⟨[], rfl, fun i hi => by simp at hi⟩
        | succ k ih =>
          intro hk
          obtain ⟨ds, h1, h2⟩ := ih (by omega)
          obtain ⟨d, hd, _⟩ := hf k (by omega)
          refine ⟨ds ++ [d], by simp [h1], fun i hi => ?_⟩
          by_cases hik : i < ds.length
          · rw [List.getElem_append_left hik]; exact h2 i hik
          · have : i = k := by simp at hi; omega
            subst this
            rw [List.getElem_append_right (by omega)]
            simpa using hd
      exact this len (Nat.le_refl _)
    obtain ⟨ds, h1, h2⟩ := hl2
    have hd : ∀ i (hi : i < ds.length), (∃ c : List Value, c.length = size ∧ (∀ j (hj : j < c.length), w.cell? ((a.add (i * size)).add j) = some c[j]) ∧ E w c ds[i]) ∧ Q ds[i] := fun i hi => by
      obtain ⟨d, e1, e2⟩ := hf i (by omega)
      rw [h2 i hi] at e1
      injection e1 with e1
      rw [e1]; exact e2
    refine ⟨ds, ⟨some a, cap - len, by rw [h1, Nat.add_sub_cancel' (by omega)], fun hn => ?_⟩, by omega, fun x hx => ?_⟩
    · obtain ⟨⟨c, hc1, hc2, _⟩, _⟩ := hd 0 (List.length_pos_iff.2 hn)
      have hcell := hc2 0 (by omega)
      have hsp : a.spot = none := by
        have := spot_of_cell hcell
        simpa [Addr.add] using this
      have hlt := World.block_lt_of_cell? w _ hcell
      refine ⟨a.block, a.off, by cases a; simp_all, by simpa [Addr.add] using hlt, fun j hj => ?_⟩
      obtain ⟨⟨c, hc1, hc2, hc3⟩, _⟩ := hd j hj
      refine ⟨c, hc1, fun i hi => ?_, hc3⟩
      have := hc2 i hi
      rw [addr_lit (a := a) hsp, addr_lit rfl] at this
      exact this
    · obtain ⟨i, hi, rfl⟩ := List.getElem_of_mem hx
      exact (hd i hi).2⟩
theorem openStruct2 {α β : Type} {t s0 s1 : Nat} {f0 f1 : Field} {E0 : VE α} {Q0 : α → Prop} {E1 : VE β} {Q1 : β → Prop} (hs : P.underlying t = some (.struct #[f0, f1])) (h0 : f0.offset = 0) (h1 : f1.offset = s0) (O0 : OpenE P f0.type s0 E0 Q0) (O1 : OpenE P f1.type s1 E1 Q1) (hc : P.cellsOf t = s0 + s1) :
    OpenE P t (s0 + s1) (vP s0 E0 E1) (fun d => Q0 d.1 ∧ Q1 d.2) := ⟨hc, fun H enc w base spare held n c y h => by
  obtain ⟨xs, n', _, _, hcl, hxl, hf⟩ := DataW.trod_struct hs h
  have e0 := hf 0 f0 rfl
  have e1 := hf 1 f1 rfl
  rw [h0, List.drop_zero, O0.1] at e0
  rw [h1, O1.1, List.take_of_length_le (by simp; omega)] at e1
  have hx : xs.length = 2 := by rw [hxl]; rfl
  rw [List.getElem?_eq_getElem (by omega)] at e0 e1
  obtain ⟨d0, a0, q0⟩ := O0.2 _ _ _ _ _ _ _ _ _ e0
  obtain ⟨d1, a1, q1⟩ := O1.2 _ _ _ _ _ _ _ _ _ e1
  exact ⟨(d0, d1), ⟨_, _, (List.take_append_drop s0 c).symm, by simp; omega, a0, a1⟩, q0, q1⟩⟩
theorem openArg {α : Type} {t size : Nat} {E : VE α} {Q : α → Prop} (hO : OpenE P t size E Q) {H : Type} {enc : TypeId × Value → H} {w : World} {base : Nat} {spare : Nat → Bool} {held : Bool} {v : Value} {d : DataW H} {p : List MemPlace} (h : DataW.Trod enc P w base spare held t v d p) : ∃ x, E w v.cells.toList x ∧ Q x := by
  obtain ⟨n, hn⟩ := h
  exact hO.2 _ _ _ _ _ _ _ _ _ hn
end
end Go.Proofs.Ytbjpkfgkmilkdaa
namespace Go.Proofs.Ytbjpkfgkmilkdaa
open Go.ChangeShapes Go.WideShapes Go.ChangeAt Go.RowKit
theorem oInt : OpenE Try.prog 3 1 vI I64 := openInt Try.underlying3 (by kernel_rfl)
abbrev QRat (d : Int × Int) : Prop := I64 d.1 ∧ I64 d.2
theorem oRat : OpenE Try.prog 72 (1 + 1) (vP 1 vI vI) (fun d => I64 d.1 ∧ I64 d.2) := openStruct2 Try.underlying72 rfl rfl oInt oInt (by kernel_rfl)
theorem oRat' : OpenE Try.prog 72 2 vR QRat := ⟨oRat.1, fun H enc w base spare held n c y h => by
  obtain ⟨d, ⟨c0, c1, rfl, _, h1, h2⟩, hq⟩ := oRat.2 H enc w base spare held n c y h
  simp only [vI] at h1 h2
  subst h1 h2
  exact ⟨d, rfl, hq⟩⟩
theorem oRats : OpenE Try.prog 23 1 (vSl 2 vR) (fun l => l.length ≤ maxLen ∧ ∀ x ∈ l, QRat x) := openSl Try.underlying23 (by kernel_rfl) (by omega) oRat'
theorem oRatss : OpenE Try.prog 22 1 (vSl 1 (vSl 2 vR)) (fun d => d.length ≤ maxLen ∧ ∀ x ∈ d, x.length ≤ maxLen) := ⟨(openSl Try.underlying22 (by kernel_rfl) (by omega) oRats).1, fun H enc w base spare held n c y h => by
  obtain ⟨d, h1, h2, h3⟩ := (openSl Try.underlying22 (by kernel_rfl) (by omega) oRats).2 H enc w base spare held n c y h
  exact ⟨d, h1, h2, fun x hx => (h3 x hx).1⟩⟩
theorem one1 {v u : Value} (h : v.cells.toList = [u]) (hv : ∃ A n c, v = .slice A n c) : v = u := by
  obtain ⟨A, n, c, rfl⟩ := hv
  simpa [Value.cells] using h
end Go.Proofs.Ytbjpkfgkmilkdaa
namespace Go.Proofs.Ytbjpkfgkmilkdaa
open Go.RowKit
section
variable {P : Program} {w : World}
theorem wpList_app1 {ops : Array Oper} {rest : List Oper} {o : Oper} {a : Act} {Q : Exit → Act → World → Prop} (hgd : o.guard = none) (s x : Operand) (t : TypeId)
    (ho : o.op = .call { callee := .builtin .append, args := #[s, x], argTypes := #[t, t] })
    {α : Type} {E : SE α} [SMono E] [SPlain E] {te size bytes : Nat} {z : Value} (hT : SlT P t te size bytes z) {v : Value} {ds : List α} {F : List Nat} {w0 : World} {cs : Array Value} {d : α} {c b0 : Nat} (hs : a.eval s = v) (hx : a.eval x = .slice (some ⟨b0, 0, none⟩) 1 c) (hw : w = w0.alloc (.cells cs te)) (hb0 : b0 = w0.heap.size)
    (hE : ∀ w, E w cs.toList d []) (hc : cs.size = size) (h1 : ∀ u ∈ cs.toList, u.oneCell' = true)
    (hS : SV te size E w0 v ds F) (hlen : ds.length + 1 ≤ 2000000000) (hby : bytes ≤ 60000)
    (h : ∀ v' w' F', SV te size E w' v' (ds ++ [d]) F' → Chg F w0 w' → (∀ b ∈ F', b ∈ F ∨ w0.heap.size ≤ b) → wpList P ops Q rest (a.put o.dst v') w') : wpList P ops Q (o :: rest) a w := by
  subst hw hb0
  have hS' : SV te size E (w0.alloc (.cells cs te)) v ds F := hS.toExt (alloc_ext w0 _)
  have hN := BoxAt.new w0 cs te
  refine wpList_appS _ hgd s x t ho hT hs hS' hS'.nodup hx (cs := cs.toList) (es := [d]) (G := []) (fun j u hj => ?_) h1 rfl (elems_one (by simpa using hc) (hE _)) (by simpa using hS'.nodup) hlen hby ?_
  · have e : (⟨w0.heap.size, 0, none⟩ : Addr).add j = ⟨w0.heap.size, j, none⟩ := by
      unfold Addr.add
      split
      · rename_i h; subst h; rfl
      · simp
    rw [e, hN.2.1 j]
    simpa using hj
  · intro v' w' F' h2 h3 _ h5
    refine h v' w' F' h2 (((Chg.refl F w0).alloc _).trans h3 (fun x hx => .inl hx)) fun b hb => ?_
    rcases h5 b hb with h | h | h
    · exact .inl h
    · simp at h
    · exact .inr (by simp at h; omega)
end
theorem BoxAt.set2 {w : World} {B : Nat} {u v u' v' : Value} (h : BoxAt w B #[u, v]) : BoxAt ((w.setCell ⟨B, 0, none⟩ u').setCell ⟨B, 1, none⟩ v') B #[u', v'] := by
  obtain ⟨h1, h2, h3⟩ := h
  have e0 := h2 0
  have e1 := h2 1
  simp at e0 e1
  refine ⟨by simpa using h1, fun j => ?_, fun j => ?_⟩
  · rcases j with _ | _ | j
    · go_simp
    · go_simp
    · have := h2 (j + 2)
      go_simp
  · go_simp
theorem BoxAt.set2' {w : World} {B B' : Nat} {cs : Array Value} {u' v' : Value} (h : BoxAt w B cs) (hne : B ≠ B') : BoxAt ((w.setCell ⟨B', 0, none⟩ u').setCell ⟨B', 1, none⟩ v') B cs :=
  h.chg (((Chg.refl [B'] w).setCell (.inl (by simp)) _).setCell (.inl (by simp)) _) (by simpa using hne)
theorem BoxAt.setO {w : World} {B B' k : Nat} {cs : Array Value} {u : Value} (h : BoxAt w B cs) (hne : B ≠ B') : BoxAt (w.setCell ⟨B', k, none⟩ u) B cs :=
  h.chg ((Chg.refl [B'] w).setCell (.inl (by simp)) _) (by simpa using hne)
theorem BoxAt.setP0 {w : World} {B : Nat} {u v u' : Value} (h : BoxAt w B #[u, v]) : BoxAt (w.setCell ⟨B, 0, none⟩ u') B #[u', v] := by
  obtain ⟨h1, h2, h3⟩ := h
  have e0 := h2 0
  have e1 := h2 1
  simp at e0 e1
  refine ⟨by simpa using h1, fun j => ?_, fun j => ?_⟩
  · rcases j with _ | _ | j
    · go_simp
    · go_simp
    · have := h2 (j + 2)
      go_simp
  · go_simp
theorem BoxAt.setP1 {w : World} {B : Nat} {u v v' : Value} (h : BoxAt w B #[u, v]) : BoxAt (w.setCell ⟨B, 1, none⟩ v') B #[u, v'] := by
  obtain ⟨h1, h2, h3⟩ := h
  have e0 := h2 0
  have e1 := h2 1
  simp at e0 e1
  refine ⟨by simpa using h1, fun j => ?_, fun j => ?_⟩
  · rcases j with _ | _ | j
    · go_simp
    · go_simp
    · have := h2 (j + 2)
      go_simp
  · go_simp
end Go.Proofs.Ytbjpkfgkmilkdaa
namespace Go.Proofs.Ytbjpkfgkmilkdaa
open Go.RowKit
section
variable {α : Type} {te size : Nat} {E : SE α} {w : World} {v : Value} {ds : List α} {F : List Nat}
theorem elems_upd {c' : List Value} {d' : α} {Fk : List Nat} {w' : World} : ∀ {vs : List Value} {ds : List α} {F : List Nat} {k : Nat} (_ : elems size E w vs ds F) (_ : k < ds.length),
    ∃ c vs1 vs2 F1 F2 Fk, vs = vs1 ++ (c ++ vs2) ∧ vs1.length = k * size ∧ c.length = size ∧ F = F1 ++ (Fk ++ F2) ∧ (∀ (h : k < ds.length), E w c ds[k] Fk) ∧ elems size E w vs1 (ds.take k) F1 ∧ elems size E w vs2 (ds.drop (k + 1)) F2
  | _, d :: ds, _, 0, ⟨c, vs', F1, F2, h1, h2, h3, h4, h5⟩, _ => ⟨c, [], vs', [], F2, F1, by simpa using h1, by simp, h2, by simpa using h5, fun _ => h3, ⟨rfl, rfl⟩, by simpa using h4⟩
  | _, d :: ds, _, k + 1, ⟨c0, vs', F0, F9, h1, h2, h3, h4, h5⟩, hk => by
    obtain ⟨c, vs1, vs2, F1, F2, Fk, e1, e2, e3, e4, e5, e6, e7⟩ := elems_upd (c' := c') (d' := d') (Fk := Fk) (w' := w') h4 (k := k) (by simpa using hk)
    refine ⟨c, c0 ++ vs1, vs2, F0 ++ F1, F2, Fk, by rw [h1, e1]; simp, by rw [List.length_append, h2, e2, Nat.add_mul]; omega, e3, by rw [h5, e4]; simp, fun h => by simpa using e5 (by simpa using h), ?_, by simpa using e7⟩
    exact ⟨c0, vs1, F0, F1, rfl, h2, h3, e6, rfl⟩
theorem elems_join {vs1 c vs2 : List Value} {ds1 ds2 : List α} {d : α} {F1 Fk F2 : List Nat} (h1 : elems size E w vs1 ds1 F1) (hc : c.length = size) (hE : E w c d Fk) (h2 : elems size E w vs2 ds2 F2) :
    elems size E w (vs1 ++ (c ++ vs2)) (ds1 ++ d :: ds2) (F1 ++ (Fk ++ F2)) := elems_append h1 ⟨c, vs2, Fk, F2, rfl, hc, hE, h2, rfl⟩
theorem set_split {ds : List α} {k : Nat} (h : k < ds.length) (d : α) : ds.set k d = ds.take k ++ d :: ds.drop (k + 1) := by
  rw [List.set_eq_take_append_cons_drop, if_pos h]
theorem SV.at [SMono E] (h : SV te size E w v ds F) (hN : F.Nodup) {k : Nat} (hk : k < ds.length) : ∃ g cap c Fk, v = .slice (some ⟨g, 0, none⟩) ds.length cap ∧ g < w.heap.size ∧ g ∈ F ∧ g ∉ Fk ∧ (∀ b ∈ Fk, b ∈ F) ∧ Fk.Nodup ∧ c.length = size ∧
    (∀ i (hi : i < c.length), w.cell? ⟨g, k * size + i, none⟩ = some c[i]) ∧ (∀ j, w.frozen? ⟨g, j, none⟩ = false) ∧ E w c ds[k] Fk ∧
    (∀ w' d', E w' c d' Fk → Chg Fk w w' → SV te size E w' v (ds.set k d') F) ∧
    (∀ j u d', j < size → E w (c.set j u) d' Fk → SV te size E (w.setCell ⟨g, k * size + j, none⟩ u) v (ds.set k d') F ∧ Chg [g] w (w.setCell ⟨g, k * size + j, none⟩ u)) := by
  obtain ⟨g, cap, hv, hgF, _, _⟩ := h.block (by intro e; subst e; simp at hk)
  obtain ⟨vs, F2, h1, h2, h3⟩ := h
  obtain ⟨c, vs1, vs2, G1, G2, Fk, e1, e2, e3, e4, e5, e6, e7⟩ := elems_upd (c' := []) (d' := ds[k]) (Fk := []) (w' := w) h2 hk
  have hfp : fpOf v = [g] := by rw [hv]; rfl
  rw [hfp] at h3
  subst h3 e4
  have hN' := hN
  rw [List.singleton_append, List.nodup_cons, List.nodup_append, List.nodup_append] at hN'
  obtain ⟨n1, n2, ⟨n3, n4, n5⟩, n6⟩ := hN'
  have hgk : g ∉ Fk := fun hm => n1 (by simp [hm])
  have hlt := (h1.lt g (by rw [hv]; rfl)).2
  have hm : (k + 1) * size ≤ ds.length * size := Nat.mul_le_mul_right _ hk
  rw [Nat.add_mul, Nat.one_mul] at hm
  have hlen := elems_length h2
  refine ⟨g, cap, c, Fk, hv, hlt, by simp, hgk, fun b hb => by simp [hb], n3, e3, fun i hi => ?_, fun j => ?_, e5 hk, fun w' d' hE hC => ?_, fun j u d' hj hE => ?_⟩
  · subst hv
    rw [h1.cellAt _ (by omega), e1, List.getElem?_append_right (by omega), e2, show k * size + i - k * size = i by omega, List.getElem?_append_left hi, List.getElem?_eq_getElem hi]
  · subst hv
    exact h1.frozenAt j
  · refine ⟨vs, G1 ++ (Fk ++ G2), ?_, ?_, by rw [hfp]⟩
    · rw [List.length_set]
      refine ownsRow_keepB h1 fun b hb => hC.block b ?_ ?_
      · rw [hfp] at hb; rw [List.mem_singleton.1 hb]; exact hlt
      · rw [hfp] at hb; rw [List.mem_singleton.1 hb]; exact hgk
    · rw [e1, set_split hk]
      refine elems_join (elems_keep e6 fun b hb => hC.block b (elems_lt e6 b hb) ?_) e3 hE (elems_keep e7 fun b hb => hC.block b (elems_lt e7 b hb) ?_)
      · exact fun hf => n6 b hb b (by simp [hf]) rfl
      · exact fun hf => n5 b hf b hb rfl
  · subst hv
    obtain ⟨h4, h5⟩ := h1.stored (k * size + j) u
    have hC : Chg [g] w (w.setCell ⟨g, k * size + j, none⟩ u) := Chg.ofGrown h5 fun k hk => by simpa using hk.symm
    have hkp : ∀ b, b ∈ G1 ++ (Fk ++ G2) → (w.setCell ⟨g, k * size + j, none⟩ u).heap[b]? = w.heap[b]? := fun b hb => by
      refine hC.block b (elems_lt h2 b hb) ?_
      intro e
      rw [List.mem_singleton.1 e] at hb
      exact n1 hb
    refine ⟨⟨vs.set (k * size + j) u, G1 ++ (Fk ++ G2), by rw [List.length_set]; exact h4, ?_, by rw [hfp]⟩, hC⟩
    have ev : vs.set (k * size + j) u = vs1 ++ (c.set j u ++ vs2) := by
      rw [e1, List.set_append_right _ _ (by omega), e2, show k * size + j - k * size = j by omega, List.set_append_left _ _ (by omega)]
    rw [ev, set_split hk]
    exact elems_join (elems_keep e6 fun b hb => hkp b (by simp [hb])) (by rw [List.length_set]; exact e3) (SMono.keep hE fun b hb => hkp b (by simp [hb])) (elems_keep e7 fun b hb => hkp b (by simp [hb]))
def Fill (te size : Nat) (E : SE α) (w : World) (v : Value) (n : Nat) (zs : List Value) (xs : List α) (k : Nat) (F : List Nat) : Prop :=
  ∃ vs F1, w.ownsRow 0 te size v n (vs ++ (List.replicate (n - k) zs).flatten) ∧ elems size E w vs (xs.take k) F1 ∧ F = fpOf v ++ F1
theorem Fill.done {n : Nat} {zs : List Value} {xs : List α} {k : Nat} (h : Fill te size E w v n zs xs k F) (hn : xs.length = n) (hk : n ≤ k) : SV te size E w v xs F := by
  obtain ⟨vs, F1, h1, h2, h3⟩ := h
  rw [show n - k = 0 by omega, List.replicate_zero, List.flatten_nil, List.append_nil] at h1
  rw [List.take_of_length_le (by omega)] at h2
  exact ⟨vs, F1, by rw [hn]; exact h1, h2, h3⟩
theorem Fill.toExt [SMono E] {n : Nat} {zs : List Value} {xs : List α} {k : Nat} {w' : World} (h : Fill te size E w v n zs xs k F) (hx : ∃ y, w' = ext w y) : Fill te size E w' v n zs xs k F := by
  obtain ⟨y, rfl⟩ := hx
  obtain ⟨vs, F1, h1, h2, rfl⟩ := h
  have hb := below_ext w y
  exact ⟨vs, F1, ownsRow_keepB h1 (fun b hb' => hb.block b (h1.lt b (mem_fpOf.1 hb')).2), elems_keep h2 (fun b hb' => hb.block b (elems_lt h2 b hb')), rfl⟩
theorem Fill.lt [SMono E] {n : Nat} {zs : List Value} {xs : List α} {k : Nat} (h : Fill te size E w v n zs xs k F) : ∀ b ∈ F, b < w.heap.size := by
  obtain ⟨vs, F1, h1, h2, rfl⟩ := h
  intro b hb
  rcases List.mem_append.1 hb with h | h
  · exact (h1.lt b (mem_fpOf.1 h)).2
  · exact elems_lt h2 b h
theorem Fill.cell {n cap : Nat} {g : Nat} {zs : List Value} {xs : List α} {k : Nat} (h : Fill te size E w (.slice (some ⟨g, 0, none⟩) n cap) n zs xs k F) {j : Nat} (hj : j < n * size) : (∃ u, w.cell? ⟨g, j, none⟩ = some u) ∧ w.frozen? ⟨g, j, none⟩ = false ∧ g < w.heap.size := by
  obtain ⟨vs, F2, h1, h2, _⟩ := h
  refine ⟨?_, h1.frozenAt j, (h1.lt g rfl).2⟩
  rw [h1.cellAt j hj]
  have := h1.1
  exact ⟨_, List.getElem?_eq_getElem (by omega)⟩
theorem Fill.put [SMono E] {n cap g : Nat} {zs c : List Value} {xs : List α} {k : Nat} {Fk : List Nat} {w' : World} (h : Fill te size E w (.slice (some ⟨g, 0, none⟩) n cap) n zs xs k F) (hk : k < xs.length) (hn : xs.length = n) (hc : c.length = size)
    (hE : E w c xs[k] Fk) (hN : (F ++ Fk).Nodup) (hC : Chg [g] w w')
    (hr : ∀ vs rest : List Value, vs.length = k * size → w.ownsRow 0 te size (.slice (some ⟨g, 0, none⟩) n cap) n (vs ++ (zs ++ rest)) → w'.ownsRow 0 te size (.slice (some ⟨g, 0, none⟩) n cap) n (vs ++ (c ++ rest))) :
    Fill te size E w' (.slice (some ⟨g, 0, none⟩) n cap) n zs xs (k + 1) (F ++ Fk) := by
  obtain ⟨vs, F1, h1, h2, rfl⟩ := h
  have hg : g ∉ F1 ∧ g ∉ Fk := by
    rw [show fpOf (.slice (some ⟨g, 0, none⟩) n cap) = [g] from rfl, List.append_assoc, List.singleton_append, List.nodup_cons] at hN
    exact ⟨fun h => hN.1 (by simp [h]), fun h => hN.1 (by simp [h])⟩
  have hl := elems_length h2
  rw [List.length_take, Nat.min_eq_left (by omega)] at hl
  rw [show n - k = (n - (k + 1)) + 1 by omega, List.replicate_succ, List.flatten_cons] at h1
  refine ⟨vs ++ c, F1 ++ Fk, by rw [List.append_assoc]; exact hr _ _ hl h1, ?_, by simp⟩
  rw [List.take_succ_eq_append_getElem hk]
  refine elems_append (elems_keep h2 fun b hb => hC.block b (elems_lt h2 b hb) ?_) (elems_one hc (SMono.keep hE fun b hb => hC.block b (SMono.lt hE b hb) ?_))
  · intro e; rw [List.mem_singleton.1 e] at hb; exact hg.1 hb
  · intro e; rw [List.mem_singleton.1 e] at hb; exact hg.2 hb
end
section
variable {α : Type} {te : Nat} {w : World} {F : List Nat} {n cap g k : Nat} {xs : List α} {Fk : List Nat}
theorem Fill.put1 {E : SE α} [SMono E] {z u : Value} (h : Fill te 1 E w (.slice (some ⟨g, 0, none⟩) n cap) n [z] xs k F) (hk : k < xs.length) (hn : xs.length = n) (hE : E w [u] xs[k] Fk) (hN : (F ++ Fk).Nodup) :
    Fill te 1 E (w.setCell ⟨g, k, none⟩ u) (.slice (some ⟨g, 0, none⟩) n cap) n [z] xs (k + 1) (F ++ Fk) ∧ Chg [g] w (w.setCell ⟨g, k, none⟩ u) := by
  have hC : Chg [g] w (w.setCell ⟨g, k, none⟩ u) := (Chg.refl [g] w).setCell (.inl (by simp)) u
  refine ⟨h.put hk hn (c := [u]) rfl hE hN hC fun vs rest hl ho => ?_, hC⟩
  have := (ho.stored k u).1
  rwa [List.set_append_right _ _ (by omega), show k - vs.length = 0 by omega] at this
end
section
variable {P : Program} (w : World)
theorem wpList_makeF {ops : Array Oper} {rest : List Oper} {o : Oper} {a : Act} {Q : Exit → Act → World → Prop} (hgd : o.guard = none) (l c : Operand) (t : TypeId) (hop : o.op = Op.makeSlice t l c)
    {α : Type} {E : SE α} {te size bytes : Nat} {z : Value} (hT : SlT P t te size bytes z) {n : Nat} (hl : a.eval l = .int .i64 (n : Int)) (hc : a.eval c = .int .i64 (n : Int)) (xs : List α) (hlen : n ≤ 2000000000) (hby : bytes ≤ 60000)
    (h : ∀ w', Fill te size E w' (.slice (some ⟨w.heap.size, 0, none⟩) n n) n z.cells.toList xs 0 [w.heap.size] → (∃ y, w' = ext w y) → w.heap.size < w'.heap.size → wpList P ops Q rest (a.put o.dst (.slice (some ⟨w.heap.size, 0, none⟩) n n)) w') : wpList P ops Q (o :: rest) a w := by
  obtain ⟨ht, hi, hzs, hsz⟩ := hT
  obtain ⟨i, hi, hz, hs1, hs2⟩ := info_parts hi
  have hb : i.bytes * n ≤ 281474976710656 := by rw [hs2]; exact Nat.le_trans (Nat.mul_le_mul hby hlen) (by omega)
  refine wpList_make_full w hgd l c t hop 0 te i z size ht hi hz hs1 .i64 .i64 n n n hl hc rfl rfl hb (by simp only [maxLen]; omega) (Nat.zero_le _) ?_
  intro w' h1 h2
  have hx : Chg [] w w' := Chg.ofGrown h2 fun k hk => by cases hk
  refine h w' ⟨[], [], ?_, ⟨rfl, rfl⟩, rfl⟩ (hx.isExt (refl_ext w) (by simp)) (h1.lt _ rfl).2
  rw [← hzs, toList_madeCells, hzs] at h1
  simpa using h1
end
theorem nodup_more {F G : List Nat} {n : Nat} (h1 : F.Nodup) (h2 : G.Nodup) (h3 : ∀ b ∈ F, b < n) (h4 : ∀ b ∈ G, n ≤ b) : (F ++ G).Nodup :=
  List.nodup_append.2 ⟨h1, h2, fun a ha b hb e => by have := h3 a ha; have := h4 b hb; omega⟩
end Go.Proofs.Ytbjpkfgkmilkdaa
namespace Go.Proofs.Ytbjpkfgkmilkdaa
open Go.RowKit
theorem take_snoc_eq {α : Type} {xs ys : List α} {k : Nat} (h1 : k < xs.length) (h2 : k < ys.length) (h : xs.take k = ys.take k) (he : xs[k] = ys[k]) : xs.take (k + 1) = ys.take (k + 1) := by
  rw [List.take_succ_eq_append_getElem h1, List.take_succ_eq_append_getElem h2, h, he]
theorem ne_of_at {α : Type} {xs ys : List α} {k : Nat} (h1 : k < xs.length) (h2 : k < ys.length) (he : ¬ xs[k] = ys[k]) : xs ≠ ys := by
  rintro rfl
  exact he rfl
theorem all_eq {α : Type} {xs ys : List α} {k : Nat} (hl : xs.length = ys.length) (hk : ¬ k < xs.length) (h : xs.take k = ys.take k) : xs = ys := by
  rwa [List.take_of_length_le (by omega), List.take_of_length_le (by omega)] at h
theorem le_maxLen {n : Nat} (h : n ≤ maxLen) : n ≤ 9223372036854775807 := by simp only [maxLen] at h; omega
theorem set_fill {α : Type} {xs : List α} {k : Nat} {z : α} (h : k < xs.length) : (xs.take k ++ List.replicate (xs.length - k) z).set k xs[k] = xs.take (k + 1) ++ List.replicate (xs.length - (k + 1)) z := by
  rw [List.set_append_right _ _ (by simp; omega), List.length_take, Nat.min_eq_left (by omega), Nat.sub_self, show xs.length - k = (xs.length - (k + 1)) + 1 by omega, List.replicate_succ, List.set_cons_zero, List.take_succ_eq_append_getElem h, List.append_assoc]
  rfl
theorem set_step {α : Type} {xs ys : List α} {k : Nat} {x : α} (hl : ys.length = xs.length) (h : k < xs.length) (hx : ys[k]'(by omega) = x) : (ys.take k ++ xs.drop k).set k x = ys.take (k + 1) ++ xs.drop (k + 1) := by
  rw [List.set_append_right _ _ (by simp; omega), List.length_take, Nat.min_eq_left (by omega), Nat.sub_self, List.drop_eq_getElem_cons h, List.set_cons_zero, List.take_succ_eq_append_getElem (by omega), hx]
  simp
def szL (left : Int) (n : Nat) : Int := if left - n < 0 then -1 else left - n
theorem szL_le {left : Int} {n : Nat} (h : 0 ≤ szL left n) : szL left n ≤ left := by unfold szL at h ⊢; split <;> simp_all <;> omega
theorem szL_small {left : Int} {n : Nat} (h : 0 ≤ szL left n) : (n : Int) ≤ left := by unfold szL at h; split at h <;> omega
def marks (k : Int) (n : Nat) : List Int := (List.range n).map fun (i : Nat) => k + (i : Int)
@[simp] theorem marks_length (k : Int) (n : Nat) : (marks k n).length = n := by simp [marks]
theorem marks_get {k : Int} {n j : Nat} (h : j < (marks k n).length) : (marks k n)[j] = k + (j : Int) := by simp [marks]
end Go.Proofs.Ytbjpkfgkmilkdaa
namespace Go.Proofs.Ytbjpkfgkmilkdaa
open Go.RowKit
theorem tR : SlT Try.prog 26 67 2 16 (.agg #[.int .i64 0, .int .i64 0]) := ⟨Try.underlying26, by kernel_rfl, rfl, by omega⟩
theorem szRationalS_any {A : Option Addr} {n c : Nat} {left : Int} {w : World} (hn : n ≤ 9223372036854775807) (h1 : 0 ≤ left) (h2 : left ≤ 1000000000) :
    Calls Try.prog 8 #[.slice A n c, .int .i64 left] w fun e w' => e = .returned (.int .i64 (szL left n)) ∧ ∃ y, w' = ext w y := by
  unfold szL
  by_cases h : left - n < 0
  · rw [if_pos h]
    go_enter Try.func8, Try.ntmps8
    go_wp2
    go_ret
    exact ⟨rfl, refl_ext w⟩
  · rw [if_neg h]
    go_enter Try.func8, Try.ntmps8
    go_wp2
    go_ret
    exact ⟨rfl, refl_ext w⟩
theorem toRational_any {a b : Int} {w : World} :
    Calls Try.prog 48 #[.agg #[.int .i64 a, .int .i64 b]] w fun e w' => e = .returned (.agg #[.int .i64 a, .int .i64 b]) ∧ ∃ y, w' = ext w y := by
  go_enter Try.func48, Try.ntmps48
  go_wp2
  exact bodyPost_ret (v := .agg #[.int .i64 a, .int .i64 b]) (by simp [results, Try.results48, go_sem]) rfl ⟨rfl, (by refine x'z ?_; repeat (with_reducible (first | exact x'a _ _ | exact x'b _ | exact x'c (by assumption) | refine x'd ?_ (by assumption) | refine x'e ?_ _ | refine x'f ?_ _ | refine x'g ?_ | refine x'h ?_ ?_ _ | refine x'i ?_ _ | refine x'j ?_ | refine x'k ?_ _ | refine x'l ?_ _ _ | refine x'm ?_ | assumption | (refine x'n ?_; omega) | omega)))⟩
set_option maxHeartbeats 800000 in
theorem toRationalS_any {A : Option Addr} {c : Nat} {xs : List (Int × Int)} {w : World} (hx : xs.length ≤ 1048576) (h1 : RR w A xs) :
    Calls Try.prog 11 #[.slice A xs.length c] w fun e w' => ∃ v F, e = .returned v ∧ (∃ y, w' = ext w y) ∧ SV 67 2 sR w' v xs F ∧ ∀ b ∈ F, w.heap.size ≤ b := by
  go_enter Try.func11, Try.ntmps11
  go_wp2_with (at_make; refine wpList_makeS (E := sR) (d := (0, 0)) _ rfl _ _ _ rfl tR rfl rfl (fun _ => ⟨rfl, rfl⟩) (by omega) (by omega) ?_; intro w1 hS hx1 hg1)
  go_loopw [4] (fun i wr => ∃ k : Nat, i = .int .i64 k ∧ k ≤ xs.length ∧ SV 67 2 sR wr (.slice (some ⟨w.heap.size, 0, none⟩) xs.length xs.length) (xs.take k ++ List.replicate (xs.length - k) (0, 0)) [w.heap.size] ∧ ∃ y, wr = ext w y) (fun i _ => xs.length - (intOf i).toNat)
  case atStart => exact ⟨0, rfl, by omega, by simpa using hS, hx1⟩
  case round =>
    obtain ⟨k, rfl, hk, hSk, y, rfl⟩ := hrel
    by_cases hlt : k < xs.length
    · obtain ⟨b, o, rfl, hb, hc, hc2⟩ := h1.atR hlt
      have hlen : (xs.take k ++ List.replicate (xs.length - k) (0, 0)).length = xs.length := by simp; omega
      clear hS hx1
      go_wp2_with (go_at_call 48; refine toRational_any.mono ?_; rintro e w2 ⟨rfl, hx2⟩; have HS := Lib.hid (hSk.toExt hx2); have Hc := HS.out.cell hlen (j := k * 2) (by omega); have Hd := HS.out.cell hlen (j := k * 2 + 1) (by omega); obtain ⟨⟨u, hu⟩, hf, hg⟩ := Hc; obtain ⟨⟨u', hu'⟩, hf', _⟩ := Hd; obtain ⟨y2, rfl⟩ := trans_ext ⟨y, rfl⟩ hx2; clear hSk hx2)
      obtain ⟨h3, h4⟩ := HS.out.set2 hlen (k := k) (by omega) (u := .int .i64 xs[k].1) (v := .int .i64 xs[k].2) (d := xs[k]) (fun _ => ⟨rfl, rfl⟩)
      refine ⟨⟨k + 1, by go_num, by omega, ?_, h4.isExt ⟨_, rfl⟩ (by simp)⟩, by simp [intOf]; omega⟩
      rwa [set_fill hlt] at h3
    · go_wp2
      go_ret
      refine ⟨_, _, rfl, ⟨y, rfl⟩, ?_, fun b hb => by rw [List.mem_singleton.1 hb]; exact Nat.le_refl _⟩
      rwa [List.take_of_length_le (by omega), show xs.length - k = 0 by omega, List.replicate_zero, List.append_nil] at hSk
theorem eqRational_any {a b c d : Int} {w : World} :
    Calls Try.prog 53 #[.agg #[.int .i64 a, .int .i64 b], .agg #[.int .i64 c, .int .i64 d]] w fun e w' => e = .returned (.bool (decide ((a, b) = (c, d)))) ∧ ∃ y, w' = ext w y := by
  by_cases h1 : a = c
  · have e1 : (a != c) = false := by simp [h1]
    by_cases h2 : b = d
    · have e2 : (b != d) = false := by simp [h2]
      have H := Lib.hid (show decide ((a, b) = (c, d)) = true by simp [h1, h2])
      clear h1 h2
      go_enter Try.func53, Try.ntmps53
      go_wp2
      go_ret
      exact ⟨by rw [H.out]; rfl, (by refine x'z ?_; repeat (with_reducible (first | exact x'a _ _ | exact x'b _ | exact x'c (by assumption) | refine x'd ?_ (by assumption) | refine x'e ?_ _ | refine x'f ?_ _ | refine x'g ?_ | refine x'h ?_ ?_ _ | refine x'i ?_ _ | refine x'j ?_ | refine x'k ?_ _ | refine x'l ?_ _ _ | refine x'm ?_ | assumption | (refine x'n ?_; omega) | omega)))⟩
    · have e2 : (b != d) = true := by simp [h2]
      have H := Lib.hid (show decide ((a, b) = (c, d)) = false by simp [h2])
      clear h1 h2
      go_enter Try.func53, Try.ntmps53
      go_wp2
      go_ret
      exact ⟨by rw [H.out]; rfl, (by refine x'z ?_; repeat (with_reducible (first | exact x'a _ _ | exact x'b _ | exact x'c (by assumption) | refine x'd ?_ (by assumption) | refine x'e ?_ _ | refine x'f ?_ _ | refine x'g ?_ | refine x'h ?_ ?_ _ | refine x'i ?_ _ | refine x'j ?_ | refine x'k ?_ _ | refine x'l ?_ _ _ | refine x'm ?_ | assumption | (refine x'n ?_; omega) | omega)))⟩
  · have e1 : (a != c) = true := by simp [h1]
    have H := Lib.hid (show decide ((a, b) = (c, d)) = false by simp [h1])
    clear h1
    go_enter Try.func53, Try.ntmps53
    go_wp2
    go_ret
    exact ⟨by rw [H.out]; rfl, (by refine x'z ?_; repeat (with_reducible (first | exact x'a _ _ | exact x'b _ | exact x'c (by assumption) | refine x'd ?_ (by assumption) | refine x'e ?_ _ | refine x'f ?_ _ | refine x'g ?_ | refine x'h ?_ ?_ _ | refine x'i ?_ _ | refine x'j ?_ | refine x'k ?_ _ | refine x'l ?_ _ _ | refine x'm ?_ | assumption | (refine x'n ?_; omega) | omega)))⟩
set_option maxHeartbeats 400000 in
theorem eqRationalS_any {A A' : Option Addr} {c c' : Nat} {xs ys : List (Int × Int)} {w : World} (hx : xs.length ≤ 1000000000) (h1 : RR w A xs) (hy : ys.length ≤ 1000000000) (h2 : RR w A' ys) :
    Calls Try.prog 13 #[.slice A xs.length c, .slice A' ys.length c'] w fun e w' => e = .returned (.bool (decide (xs = ys))) ∧ ∃ y, w' = ext w y := by
  by_cases hl : xs.length = ys.length
  · have hn : ((xs.length : Int) != (ys.length : Int)) = false := by simp [hl]
    go_enter Try.func13, Try.ntmps13
    go_wp2
    go_loopw [5] (fun i wr => ∃ k : Nat, i = .int .i64 k ∧ k ≤ xs.length ∧ xs.take k = ys.take k ∧ ∃ y, wr = ext w y) (fun i _ => xs.length - (intOf i).toNat)
    case atStart => exact ⟨0, rfl, by omega, by simp, refl_ext w⟩
    case round =>
      obtain ⟨k, rfl, hk, ht, y, rfl⟩ := hrel
      have Ht := Lib.hid ht
      clear ht
      by_cases hlt : k < xs.length
      · obtain ⟨b, o, rfl, hb, hc, hd⟩ := h1.atR hlt
        obtain ⟨b', o', rfl, hb', hc', hd'⟩ := h2.atR (k := k) (by omega)
        by_cases he : xs[k] = ys[k]
        · have He := Lib.hid he
          go_wp2
          refine wp_region_ext (by kernel_rfl) (by kernel_rfl) ?_
          repeat (go_big_quiet_step ((go_at_call 53; exact quietE eqRational_any)))
          refine wpQuiet_nil ?_
          rintro _ ⟨z, rfl⟩
          go_wp2
          exact ⟨⟨k + 1, by go_num, by omega, take_snoc_eq _ _ Ht.out He.out, _, ext_ext⟩, by simp [intOf]; omega⟩
        · have He := Lib.hid he
          go_wp2
          refine wp_region_ext (by kernel_rfl) (by kernel_rfl) ?_
          repeat (go_big_quiet_step ((go_at_call 53; exact quietE eqRational_any)))
          refine wpQuiet_nil ?_
          rintro _ ⟨z, rfl⟩
          go_wp2
          go_ret
          exact ⟨by rw [decide_eq_false (ne_of_at hlt (by omega) He.out)]; rfl, _, ext_ext⟩
      · go_wp2
        go_ret
        exact ⟨by rw [decide_eq_true (all_eq hl hlt Ht.out)]; rfl, y, rfl⟩
  · have hn : ((xs.length : Int) != (ys.length : Int)) = true := by simp; omega
    go_enter Try.func13, Try.ntmps13
    go_wp2
    go_ret
    exact ⟨by rw [decide_eq_false (by rintro rfl; exact hl rfl)]; rfl, refl_ext w⟩
end Go.Proofs.Ytbjpkfgkmilkdaa
namespace Go.Proofs.Ytbjpkfgkmilkdaa
open Go.RowKit
def marksR (k : Int) (n : Nat) : List (Int × Int) := (List.range n).map fun (i : Nat) => (k + 2 * (i : Int), k + 2 * (i : Int) + 1)
@[simp] theorem marksR_length (k : Int) (n : Nat) : (marksR k n).length = n := by simp [marksR]
theorem marksR_get {k : Int} {n j : Nat} (h : j < (marksR k n).length) : (marksR k n)[j] = (k + 2 * (j : Int), k + 2 * (j : Int) + 1) := by simp [marksR]
set_option maxHeartbeats 1000000 in
theorem markRationalS_any {v : Value} {xs : List (Int × Int)} {F : List Nat} {k0 : Int} {w : World} (hx : xs.length ≤ 1000000000) (hS : SV 67 2 sR w v xs F) (h0 : 0 ≤ k0) (hk0 : k0 ≤ 100000000000) :
    Calls Try.prog 16 #[v, .int .i64 k0] w fun e w' => e = .returned (.int .i64 (k0 + 2 * xs.length)) ∧ SV 67 2 sR w' v (marksR k0 xs.length) F ∧ Chg F w w' := by
  obtain ⟨A, cap, rfl, _, _⟩ := hS.form
  go_enter Try.func16, Try.ntmps16
  go_wp2
  go_loopw [1, 5] (fun m i wr => ∃ k : Nat, i = .int .i64 k ∧ m = .int .i64 (k0 + 2 * k) ∧ k ≤ xs.length ∧ SV 67 2 sR wr (.slice A xs.length cap) ((marksR k0 xs.length).take k ++ xs.drop k) F ∧ Chg F w wr) (fun _ i _ => xs.length - (intOf i).toNat)
  case atStart => exact ⟨0, rfl, by simp, by omega, by simpa using hS, Chg.refl F w⟩
  case round =>
    obtain ⟨k, rfl, rfl, hk, hSk, hC⟩ := hrel
    have hlen : ((marksR k0 xs.length).take k ++ xs.drop k).length = xs.length := by simp; omega
    by_cases hlt : k < xs.length
    · have HS := Lib.hid hSk
      obtain ⟨g, cap', hv, hgF, _, _⟩ := hSk.block (by intro h; simp [h] at hlen; omega)
      rw [hlen] at hv
      injection hv with hA _ hc
      subst hA hc
      obtain ⟨⟨u, hu⟩, hf, hg⟩ := hSk.cell hlen (j := k * 2) (by omega)
      obtain ⟨⟨u', hu'⟩, hf', _⟩ := hSk.cell hlen (j := k * 2 + 1) (by omega)
      clear hSk hS
      go_wp2
      obtain ⟨h3, h4⟩ := HS.out.set2 hlen (k := k) (by omega) (u := .int .i64 (k0 + 2 * k)) (v := .int .i64 (k0 + 2 * k + 1)) (d := (k0 + 2 * k, k0 + 2 * k + 1)) (fun _ => ⟨rfl, rfl⟩)
      refine ⟨⟨k + 1, by go_num, by congr 1; omega, by omega, ?_, hC.trans h4 (by simp [hgF])⟩, by simp [intOf]; omega⟩
      rwa [set_step (by simp) hlt (marksR_get _)] at h3
    · go_wp2
      go_ret
      have e : k = xs.length := by omega
      subst e
      exact ⟨rfl, by rwa [List.take_of_length_le (by simp), List.drop_length, List.append_nil] at hSk, hC⟩
set_option maxHeartbeats 1000000 in
theorem heldRationalS_any {A : Option Addr} {c n : Nat} {k0 : Int} {w : World} (hx : n ≤ 1000000000) (h1 : RR w A (marksR k0 n)) (h0 : 0 ≤ k0) (hk0 : k0 ≤ 100000000000) :
    Calls Try.prog 17 #[.slice A n c, .int .i64 k0] w fun e w' => e = .returned (.int .i64 (k0 + 2 * n)) ∧ ∃ y, w' = ext w y := by
  go_enter Try.func17, Try.ntmps17
  go_wp2
  go_loopw [1, 5] (fun m i wr => ∃ k : Nat, i = .int .i64 k ∧ m = .int .i64 (k0 + 2 * k) ∧ k ≤ n ∧ ∃ y, wr = ext w y) (fun _ i _ => n - (intOf i).toNat)
  case atStart => exact ⟨0, rfl, by simp, by omega, refl_ext w⟩
  case round =>
    obtain ⟨k, rfl, rfl, hk, y, rfl⟩ := hrel
    by_cases hlt : k < n
    · obtain ⟨b, o, rfl, hb, hc, hd⟩ := h1.atR (k := k) (by simpa using hlt)
      rw [marksR_get] at hc hd
      go_wp2
      exact ⟨⟨k + 1, by go_num, by congr 1; omega, by omega, y, rfl⟩, by simp [intOf]; omega⟩
    · go_wp2
      go_ret
      have e : k = n := by omega
      subst e
      exact ⟨rfl, y, rfl⟩
end Go.Proofs.Ytbjpkfgkmilkdaa
namespace Go.Proofs.Ytbjpkfgkmilkdaa
open Go.RowKit
section
variable {α : Type}
def szG (f : Int → α → Int) : Int → List α → Int
  | l, [] => l
  | l, x :: xs => if f l x < 0 then -1 else szG f (f l x) xs
def szN (f : Int → α → Int) (left : Int) (xs : List α) : Int := if left - xs.length < 0 then -1 else szG f (left - xs.length) xs
theorem szG_step {f : Int → α → Int} {l : Int} {xs : List α} {k : Nat} (h : k < xs.length) (h1 : 0 ≤ f l xs[k]) : szG f l (xs.drop k) = szG f (f l xs[k]) (xs.drop (k + 1)) := by
  rw [List.drop_eq_getElem_cons h, szG, if_neg (by omega)]
theorem szG_stop {f : Int → α → Int} {l : Int} {xs : List α} {k : Nat} (h : k < xs.length) (h1 : f l xs[k] < 0) : szG f l (xs.drop k) = -1 := by
  rw [List.drop_eq_getElem_cons h, szG, if_pos h1]
theorem szG_end {f : Int → α → Int} {l : Int} {xs : List α} {k : Nat} (h : ¬ k < xs.length) : szG f l (xs.drop k) = l := by
  rw [List.drop_eq_nil_of_le (by omega), szG]
theorem szG_le {f : Int → α → Int} (hf : ∀ l x, 0 ≤ f l x → f l x ≤ l) : ∀ (xs : List α) (l : Int), 0 ≤ szG f l xs → szG f l xs ≤ l
  | [], l, _ => Int.le_refl l
  | x :: xs, l, h => by
    rw [szG] at h ⊢
    split at h
    · omega
    · rename_i h1
      rw [if_neg h1]
      exact Int.le_trans (szG_le hf xs _ h) (hf l x (by omega))
theorem szG_each {f : Int → α → Int} {c : α → Nat} (hf : ∀ l x, 0 ≤ f l x → f l x ≤ l - c x) : ∀ (xs : List α) (l : Int), 0 ≤ szG f l xs → szG f l xs + ((xs.map c).sum : Nat) ≤ l
  | [], l, _ => by simp [szG]
  | x :: xs, l, h => by
    rw [szG] at h ⊢
    split at h
    · omega
    · rename_i h1
      rw [if_neg h1]
      have h2 := szG_each hf xs _ h
      have h3 := hf l x (by omega)
      rw [List.map_cons, List.sum_cons]
      omega
theorem szN_le {f : Int → α → Int} (hf : ∀ l x, 0 ≤ f l x → f l x ≤ l) {left : Int} {xs : List α} (h : 0 ≤ szN f left xs) : szN f left xs ≤ left := by
  unfold szN at h ⊢
  split at h
  · omega
  · rename_i h1
    rw [if_neg h1]
    have := szG_le hf xs _ h
    omega
theorem szN_small {f : Int → α → Int} {c : α → Nat} (hf : ∀ l x, 0 ≤ f l x → f l x ≤ l - c x) {left : Int} {xs : List α} (h : 0 ≤ szN f left xs) : (xs.length : Int) + ((xs.map c).sum : Nat) ≤ left := by
  unfold szN at h
  split at h
  · omega
  · have := szG_each hf xs _ h
    omega
theorem sum_each {c : α → Nat} : ∀ {xs : List α} {x : α}, x ∈ xs → c x ≤ (xs.map c).sum
  | y :: xs, x, h => by
    rw [List.map_cons, List.sum_cons]
    rcases List.mem_cons.1 h with e | e
    · subst e; omega
    · have := sum_each (c := c) e
      omega
def mkN (mk : Int → α → α × Int) : Int → List α → List α × Int
  | k, [] => ([], k)
  | k, x :: xs => ((mk k x).1 :: (mkN mk (mk k x).2 xs).1, (mkN mk (mk k x).2 xs).2)
@[simp] theorem mkN_length (mk : Int → α → α × Int) : ∀ (xs : List α) (k : Int), (mkN mk k xs).1.length = xs.length
  | [], _ => rfl
  | x :: xs, k => by simp [mkN, mkN_length mk xs]
theorem mkN_append (mk : Int → α → α × Int) : ∀ (xs ys : List α) (k : Int), mkN mk k (xs ++ ys) = ((mkN mk k xs).1 ++ (mkN mk (mkN mk k xs).2 ys).1, (mkN mk (mkN mk k xs).2 ys).2)
  | [], ys, k => rfl
  | x :: xs, ys, k => by simp [mkN, mkN_append mk xs]
theorem mkN_take {mk : Int → α → α × Int} {k : Int} {xs : List α} {i : Nat} (h : i < xs.length) : mkN mk k (xs.take (i + 1)) = ((mkN mk k (xs.take i)).1 ++ [(mk (mkN mk k (xs.take i)).2 xs[i]).1], (mk (mkN mk k (xs.take i)).2 xs[i]).2) := by
  rw [List.take_succ_eq_append_getElem h, mkN_append]
  rfl
theorem mkN_sum {mk : Int → α → α × Int} {c : α → Nat} (hm : ∀ k x, (mk k x).2 = k + c x) : ∀ (xs : List α) (k : Int), (mkN mk k xs).2 = k + ((xs.map c).sum : Nat)
  | [], k => by simp [mkN]
  | x :: xs, k => by
    rw [mkN]
    simp only
    rw [mkN_sum hm xs, hm, List.map_cons, List.sum_cons]
    omega
theorem sum_take_le {c : α → Nat} (xs : List α) (i : Nat) : ((xs.take i).map c).sum ≤ (xs.map c).sum := by
  conv => rhs; rw [← List.take_append_drop i xs]
  rw [List.map_append, List.sum_append]
  omega
theorem mk_set {mk : Int → α → α × Int} {k : Int} {xs : List α} {i : Nat} (h : i < xs.length) : ((mkN mk k (xs.take i)).1 ++ xs.drop i).set i (mk (mkN mk k (xs.take i)).2 xs[i]).1 = (mkN mk k (xs.take (i + 1))).1 ++ xs.drop (i + 1) := by
  rw [mkN_take h, List.set_append_right _ _ (by simp; omega), show i - (mkN mk k (xs.take i)).1.length = 0 by simp; omega, List.drop_eq_getElem_cons h, List.set_cons_zero]
  simp
theorem mk_get {mk : Int → α → α × Int} {k : Int} {xs : List α} {i : Nat} (h : i < xs.length) (h' : i < ((mkN mk k (xs.take i)).1 ++ xs.drop i).length) : ((mkN mk k (xs.take i)).1 ++ xs.drop i)[i] = xs[i] := by
  rw [List.getElem_append_right (by simp; omega)]
  simp [show i - min i xs.length = 0 by omega]
end
def szR (l : Int) (x : List (Int × Int)) : Int := szL l x.length
theorem szL_sub {l : Int} {n : Nat} (h : 0 ≤ szL l n) : szL l n ≤ l - n := by
  unfold szL at h ⊢
  split at h
  · omega
  · rename_i h1; rw [if_neg h1]; omega
theorem szR_sub (l : Int) (x : List (Int × Int)) (h : 0 ≤ szR l x) : szR l x ≤ l - x.length := szL_sub h
def mkR (k : Int) (x : List (Int × Int)) : List (Int × Int) × Int := (marksR k x.length, k + 2 * x.length)
theorem tRR : SlT Try.prog 29 26 1 24 (.slice none 0 0) := ⟨Try.underlying29, by kernel_rfl, rfl, by omega⟩
set_option maxHeartbeats 1000000 in
theorem szRationalSS_any {A : Option Addr} {c : Nat} {xs : List (List (Int × Int))} {left : Int} {w : World} (hn : xs.length ≤ 9223372036854775807) (h : RRR w A xs) (hl : ∀ x ∈ xs, x.length ≤ 9223372036854775807) (h1 : 0 ≤ left) (h2 : left ≤ 1000000000) :
    Calls Try.prog 7 #[.slice A xs.length c, .int .i64 left] w fun e w' => e = .returned (.int .i64 (szN szR left xs)) ∧ ∃ y, w' = ext w y := by
  have Hl := Lib.hid hl
  clear hl
  by_cases h0 : left - xs.length < 0
  · rw [show szN szR left xs = -1 by unfold szN; rw [if_pos h0]]
    go_enter Try.func7, Try.ntmps7
    go_wp2
    go_ret
    exact ⟨rfl, refl_ext w⟩
  · rw [show szN szR left xs = szG szR (left - xs.length) xs by unfold szN; rw [if_neg h0]]
    go_enter Try.func7, Try.ntmps7
    go_wp2
    go_loopw [1, 5] (fun m i wr => ∃ (k : Nat) (l : Int), m = .int .i64 l ∧ i = .int .i64 k ∧ k ≤ xs.length ∧ 0 ≤ l ∧ l ≤ left ∧ szG szR l (xs.drop k) = szG szR (left - xs.length) xs ∧ ∃ y, wr = ext w y) (fun _ i _ => xs.length - (intOf i).toNat)
    case atStart => exact ⟨0, left - xs.length, rfl, rfl, by omega, by omega, by omega, by simp, refl_ext w⟩
    case round =>
      obtain ⟨k, l, rfl, rfl, hk, hl0, hl1, hj, hy⟩ := hrel
      have Hj := Lib.hid hj
      clear hj
      have h' := h.toExt hy
      by_cases hlt : k < xs.length
      · obtain ⟨b, o, A', c', rfl, hb, hc, hv⟩ := h'.atV hlt
        have hle := Hl.out xs[k] (List.getElem_mem hlt)
        by_cases hs : 0 ≤ szR l xs[k]
        · have e := Hj.out
          rw [szG_step hlt hs] at e
          have he := szR_sub l xs[k] hs
          obtain ⟨r, hr⟩ : ∃ r, szR l xs[k] = r := ⟨_, rfl⟩
          rw [hr] at e hs he
          have He := Lib.hid e
          have Hr := Lib.hid hr
          clear e hr
          go_wp2_with (go_at_call 8; refine (szRationalS_any hle (by omega) (by omega)).mono ?_; rintro e w' ⟨rfl, hx9⟩; rw [show szL l xs[k].length = r from Hr.out])
          exact ⟨⟨k + 1, r, rfl, by go_num, by omega, by omega, by omega, He.out, (by refine x'z ?_; repeat (with_reducible (first | exact x'a _ _ | exact x'b _ | exact x'c (by assumption) | refine x'd ?_ (by assumption) | refine x'e ?_ _ | refine x'f ?_ _ | refine x'g ?_ | refine x'h ?_ ?_ _ | refine x'i ?_ _ | refine x'j ?_ | refine x'k ?_ _ | refine x'l ?_ _ _ | refine x'm ?_ | assumption | (refine x'n ?_; omega) | omega)))⟩, by simp [intOf]; omega⟩
        · have hs : szR l xs[k] < 0 := by omega
          have e := Hj.out
          rw [szG_stop hlt hs] at e
          obtain ⟨r, hr⟩ : ∃ r, szR l xs[k] = r := ⟨_, rfl⟩
          rw [hr] at hs
          have He := Lib.hid e
          have Hr := Lib.hid hr
          clear e hr
          go_wp2_with (go_at_call 8; refine (szRationalS_any hle (by omega) (by omega)).mono ?_; rintro e w' ⟨rfl, hx9⟩; rw [show szL l xs[k].length = r from Hr.out])
          go_ret
          exact ⟨by rw [← He.out]; rfl, (by refine x'z ?_; repeat (with_reducible (first | exact x'a _ _ | exact x'b _ | exact x'c (by assumption) | refine x'd ?_ (by assumption) | refine x'e ?_ _ | refine x'f ?_ _ | refine x'g ?_ | refine x'h ?_ ?_ _ | refine x'i ?_ _ | refine x'j ?_ | refine x'k ?_ _ | refine x'l ?_ _ _ | refine x'm ?_ | assumption | (refine x'n ?_; omega) | omega)))⟩
      · go_wp2
        go_ret
        have e := Hj.out
        rw [szG_end hlt] at e
        exact ⟨by rw [← e]; rfl, hy⟩
set_option maxHeartbeats 1000000 in
theorem toRationalSS_any {A : Option Addr} {c : Nat} {xs : List (List (Int × Int))} {w : World} (hx : xs.length ≤ 1048576) (h1 : RRR w A xs) (hl : ∀ x ∈ xs, x.length ≤ 1048576) :
    Calls Try.prog 10 #[.slice A xs.length c] w fun e w' => ∃ v F, e = .returned v ∧ (∃ y, w' = ext w y) ∧ SV 26 1 (sSl 67 2 sR) w' v xs F ∧ F.Nodup ∧ ∀ b ∈ F, w.heap.size ≤ b := by
  have Hl := Lib.hid hl
  clear hl
  go_enter Try.func10, Try.ntmps10
  go_wp2_with (at_make; refine wpList_makeF (E := (sSl 67 2 sR)) _ rfl _ _ _ rfl tRR rfl rfl xs (by omega) (by omega) ?_; intro w1 hS hx1 hg1)
  go_loopw [4] (fun i wr => ∃ (k : Nat) (F : List Nat), i = .int .i64 k ∧ k ≤ xs.length ∧ Fill 26 1 (sSl 67 2 sR) wr (.slice (some ⟨w.heap.size, 0, none⟩) xs.length xs.length) xs.length [.slice none 0 0] xs k F ∧ F.Nodup ∧ (∀ b ∈ F, w.heap.size ≤ b) ∧ ∃ y, wr = ext w y) (fun i _ => xs.length - (intOf i).toNat)
  case atStart => exact ⟨0, _, rfl, by omega, hS, by simp, by simp, hx1⟩
  case round =>
    obtain ⟨k, F, rfl, hk, hSk, hN, hF, hy⟩ := hrel
    have HF := Lib.hid hF
    have HN := Lib.hid hN
    clear hF hN
    have h1' := h1.toExt hy
    by_cases hlt : k < xs.length
    · obtain ⟨b, o, A', c', rfl, hb, hc, hv⟩ := h1'.atV hlt
      have hle := Hl.out xs[k] (List.getElem_mem hlt)
      clear hS hx1
      go_wp2_with (go_at_call 11; refine (toRationalS_any hle hv).mono ?_; rintro e w2 ⟨v2, F2, rfl, hx2, hS2, hF2⟩; obtain ⟨A2, c2, rfl, _⟩ := hS2.form; have HS := Lib.hid (hSk.toExt hx2); have Hc := HS.out.cell (j := k) (by omega); obtain ⟨⟨u, hu⟩, hf, hg⟩ := Hc)
      obtain ⟨h3, h4⟩ := HS.out.put1 hlt rfl (Fk := F2) ⟨_, rfl, hS2⟩ (nodup_more HN.out hS2.nodup hSk.lt hF2)
      exact ⟨⟨k + 1, F ++ F2, by go_num, by omega, h3, nodup_more HN.out hS2.nodup hSk.lt hF2, fun b hb => by
        rcases List.mem_append.1 hb with h | h
        · exact HF.out b h
        · exact Nat.le_trans (size_of_ext hy) (hF2 b h), (h4.isExt (trans_ext hy hx2) (by simp))⟩, by simp [intOf]; omega⟩
    · go_wp2
      go_ret
      exact ⟨_, F, rfl, hy, hSk.done rfl (by omega), HN.out, HF.out⟩
set_option maxHeartbeats 1000000 in
theorem eqRationalSS_any {A A' : Option Addr} {c c' : Nat} {xs ys : List (List (Int × Int))} {w : World} (hx : xs.length ≤ 1000000000) (h1 : RRR w A xs) (hxl : ∀ x ∈ xs, x.length ≤ 1000000000) (hy : ys.length ≤ 1000000000) (h2 : RRR w A' ys) (hyl : ∀ x ∈ ys, x.length ≤ 1000000000) :
    Calls Try.prog 14 #[.slice A xs.length c, .slice A' ys.length c'] w fun e w' => e = .returned (.bool (decide (xs = ys))) ∧ ∃ y, w' = ext w y := by
  have Hxl := Lib.hid hxl
  have Hyl := Lib.hid hyl
  clear hxl hyl
  by_cases hl : xs.length = ys.length
  · have hn : ((xs.length : Int) != (ys.length : Int)) = false := by simp [hl]
    have hl2 : ys.length ≤ xs.length := by omega
    have hl3 : xs.length ≤ ys.length := by omega
    have HL := Lib.hid hl
    clear hl
    go_enter Try.func14, Try.ntmps14
    go_wp2
    go_loopw [5] (fun i wr => ∃ k : Nat, i = .int .i64 k ∧ k ≤ xs.length ∧ xs.take k = ys.take k ∧ ∃ y, wr = ext w y) (fun i _ => xs.length - (intOf i).toNat)
    case atStart => exact ⟨0, rfl, by omega, by simp, refl_ext w⟩
    case round =>
      obtain ⟨k, rfl, hk, ht, hy⟩ := hrel
      have Ht := Lib.hid ht
      clear ht
      have h1' := h1.toExt hy
      have h2' := h2.toExt hy
      by_cases hlt : k < xs.length
      · have hlt2 : k < ys.length := by omega
        obtain ⟨b, o, A1, c1, rfl, hb, hc, hv⟩ := h1'.atV hlt
        obtain ⟨b', o', A2, c2, rfl, hb', hc', hv'⟩ := h2'.atV hlt2
        have q1 := Hxl.out xs[k] (List.getElem_mem hlt)
        have q2 := Hyl.out ys[k] (List.getElem_mem hlt2)
        by_cases he : xs[k] = ys[k]
        · have He := Lib.hid he
          have Hd := Lib.hid (show decide (xs[k] = ys[k]) = true by simp [he])
          clear he
          go_wp2
          refine wp_region_ext (by kernel_rfl) (by kernel_rfl) ?_
          repeat (go_big_quiet_step ((go_at_call 13; exact quietEb (eqRationalS_any q1 hv.ext q2 hv'.ext) Hd.out)))
          refine wpQuiet_nil ?_
          rintro _ ⟨z, rfl⟩
          go_wp2
          exact ⟨⟨k + 1, by go_num, by omega, take_snoc_eq _ _ Ht.out He.out, (by refine x'z ?_; repeat (with_reducible (first | exact x'a _ _ | exact x'b _ | exact x'c (by assumption) | refine x'd ?_ (by assumption) | refine x'e ?_ _ | refine x'f ?_ _ | refine x'g ?_ | refine x'h ?_ ?_ _ | refine x'i ?_ _ | refine x'j ?_ | refine x'k ?_ _ | refine x'l ?_ _ _ | refine x'm ?_ | assumption | (refine x'n ?_; omega) | omega)))⟩, by simp [intOf]; omega⟩
        · have He := Lib.hid he
          have Hd := Lib.hid (show decide (xs[k] = ys[k]) = false by simp [he])
          clear he
          go_wp2
          refine wp_region_ext (by kernel_rfl) (by kernel_rfl) ?_
          repeat (go_big_quiet_step ((go_at_call 13; exact quietEb (eqRationalS_any q1 hv.ext q2 hv'.ext) Hd.out)))
          refine wpQuiet_nil ?_
          rintro _ ⟨z, rfl⟩
          go_wp2
          go_ret
          exact ⟨by rw [decide_eq_false (ne_of_at hlt hlt2 He.out)]; rfl, (by refine x'z ?_; repeat (with_reducible (first | exact x'a _ _ | exact x'b _ | exact x'c (by assumption) | refine x'd ?_ (by assumption) | refine x'e ?_ _ | refine x'f ?_ _ | refine x'g ?_ | refine x'h ?_ ?_ _ | refine x'i ?_ _ | refine x'j ?_ | refine x'k ?_ _ | refine x'l ?_ _ _ | refine x'm ?_ | assumption | (refine x'n ?_; omega) | omega)))⟩
      · go_wp2
        go_ret
        exact ⟨by rw [decide_eq_true (all_eq HL.out hlt Ht.out)]; rfl, hy⟩
  · have hn : ((xs.length : Int) != (ys.length : Int)) = true := by simp; omega
    go_enter Try.func14, Try.ntmps14
    go_wp2
    go_ret
    exact ⟨by rw [decide_eq_false (by rintro rfl; exact hl rfl)]; rfl, refl_ext w⟩
theorem mkR_sum (k : Int) (xs : List (List (Int × Int))) : (mkN mkR k xs).2 = k + ((xs.map fun x => 2 * x.length).sum : Nat) := mkN_sum (fun k x => by simp [mkR]) xs k
theorem mkR_bd {k : Int} {xs : List (List (Int × Int))} (h0 : 0 ≤ k) (hs : k + ((xs.map fun x => 2 * x.length).sum : Nat) ≤ 100000000000) (i : Nat) : 0 ≤ (mkN mkR k (xs.take i)).2 ∧ (mkN mkR k (xs.take i)).2 ≤ 100000000000 := by
  rw [mkR_sum]
  have := sum_take_le (c := fun x => 2 * x.length) xs i
  omega
set_option maxHeartbeats 1000000 in
theorem markRationalSS_any {v : Value} {xs : List (List (Int × Int))} {F : List Nat} {k0 : Int} {w : World} (hx : xs.length ≤ 1000000000) (hxl : ∀ x ∈ xs, x.length ≤ 1000000000) (hS : SV 26 1 (sSl 67 2 sR) w v xs F) (hN : F.Nodup) (h0 : 0 ≤ k0) (hk0 : k0 + ((xs.map fun x => 2 * x.length).sum : Nat) ≤ 100000000000) :
    Calls Try.prog 15 #[v, .int .i64 k0] w fun e w' => e = .returned (.int .i64 (mkN mkR k0 xs).2) ∧ SV 26 1 (sSl 67 2 sR) w' v (mkN mkR k0 xs).1 F ∧ Chg F w w' := by
  have Hxl := Lib.hid hxl
  have HN := Lib.hid hN
  have HB := Lib.hid (mkR_bd h0 hk0)
  clear hxl hN hk0
  obtain ⟨A, cap, rfl, _, _⟩ := hS.form
  go_enter Try.func15, Try.ntmps15
  go_wp2
  go_loopw [1, 5] (fun m i wr => ∃ k : Nat, i = .int .i64 k ∧ m = .int .i64 (mkN mkR k0 (xs.take k)).2 ∧ k ≤ xs.length ∧ SV 26 1 (sSl 67 2 sR) wr (.slice A xs.length cap) ((mkN mkR k0 (xs.take k)).1 ++ xs.drop k) F ∧ Chg F w wr) (fun _ i _ => xs.length - (intOf i).toNat)
  case atStart => exact ⟨0, rfl, by simp [mkN], by omega, by simpa [mkN] using hS, Chg.refl F w⟩
  case round =>
    obtain ⟨k, rfl, rfl, hk, hSk, hC⟩ := hrel
    have hlen : ((mkN mkR k0 (xs.take k)).1 ++ xs.drop k).length = xs.length := by simp; omega
    by_cases hlt : k < xs.length
    · obtain ⟨g, cap', c, Fk, hv, hg, hgF, hgk, hsub, hNk, hcl, hcell, hfz, hE, hup, _⟩ := hSk.at HN.out (k := k) (by omega)
      rw [hlen] at hv
      injection hv with hA _ hc
      subst hA hc
      obtain ⟨_, rfl, hS2⟩ := hE
      rw [mk_get hlt] at hS2
      have hc0 := hcell 0 (by simp)
      simp only [Nat.mul_one, Nat.add_zero, List.getElem_cons_zero] at hc0
      have Hup := Lib.hid hup
      have Hsub := Lib.hid hsub
      have hle := Hxl.out xs[k] (List.getElem_mem hlt)
      obtain ⟨b1, b2⟩ := HB.out k
      obtain ⟨m, hm⟩ : ∃ m, (mkN mkR k0 (xs.take k)).2 = m := ⟨_, rfl⟩
      have HM := Lib.hid hm
      rw [hm] at b1 b2 ⊢
      have HL := Lib.hid hlen
      clear hcell hup hsub hcl hS hm hlen hfz
      go_wp2_with (go_at_call 16; refine (markRationalS_any hle hS2 b1 b2).mono ?_; rintro e w2 ⟨rfl, hS3, hC3⟩)
      have h3 := Hup.out w2 _ ⟨_, rfl, hS3⟩ hC3
      have e3 := mk_set (mk := mkR) (k := k0) hlt
      rw [HM.out] at e3
      have e4 : (mkN mkR k0 (xs.take (k + 1))).2 = m + 2 * xs[k].length := by rw [mkN_take hlt, HM.out]; rfl
      exact ⟨⟨k + 1, by go_num, by rw [e4], by omega, by rw [← e3]; exact h3, hC.trans hC3 (fun x hx => .inl (Hsub.out x hx))⟩, by simp [intOf]; omega⟩
    · go_wp2
      go_ret
      have e : k = xs.length := by omega
      subst e
      rw [List.take_length] at hSk ⊢
      exact ⟨rfl, by rwa [List.drop_length, List.append_nil] at hSk, hC⟩
end Go.Proofs.Ytbjpkfgkmilkdaa
namespace Go.Proofs.Ytbjpkfgkmilkdaa
open Go.RowKit
theorem OD.toExt {α : Type} {E : SE α} [SMono E] {w w' : World} {cs : List Value} {d : α} {F : List Nat} (h : E w cs d F) (hx : ∃ y, w' = ext w y) : E w' cs d F := by
  obtain ⟨y, rfl⟩ := hx
  exact SMono.keep h fun b hb => (below_ext w y).block b (SMono.lt h b hb)
theorem OD.chg {α : Type} {E : SE α} [SMono E] {w w' : World} {cs : List Value} {d : α} {F G : List Nat} (h : E w cs d F) (hc : Chg G w w') (hd : ∀ b ∈ F, b ∉ G) : E w' cs d F := SMono.keep h fun b hb => hc.block b (SMono.lt h b hb) (hd b hb)
theorem VD.toExt {α : Type} {V : VE α} [VMono V] {w w' : World} {cs : List Value} {d : α} (h : V w cs d) (hx : ∃ y, w' = ext w y) : V w' cs d := by
  obtain ⟨y, rfl⟩ := hx
  exact VMono.ext h
def QSS {α : Type} (d : List (List α)) : Prop := d.length ≤ maxLen ∧ ∀ x ∈ d, x.length ≤ maxLen
def BSS {α : Type} (d : List (List α)) : Prop := d.length ≤ 1048576 ∧ (d.map List.length).sum ≤ 1048576
theorem BSS.each {α : Type} {d : List (List α)} (h : BSS d) : ∀ x ∈ d, x.length ≤ 1048576 := fun _ hx => Nat.le_trans (sum_each (c := List.length) hx) h.2
theorem BSS.big {α : Type} {d : List (List α)} (h : BSS d) : ∀ x ∈ d, x.length ≤ 1000000000 := fun x hx => Nat.le_trans (h.each x hx) (by omega)
theorem sum_mul {α : Type} (d : List (List α)) (n : Nat) : (d.map fun x => n * x.length).sum = n * (d.map List.length).sum := by
  induction d with
  | nil => simp
  | cons x d ih => simp only [List.map_cons, List.sum_cons, ih, Nat.mul_add]
abbrev vRR : VE (List (List (Int × Int))) := vSl 1 (vSl 2 vR)
abbrev sRR : SE (List (List (Int × Int))) := sSl 26 1 (sSl 67 2 sR)
theorem sRR_v {w : World} (c : List Value) (d : List (List (Int × Int))) (F : List Nat) (h : sRR w c d F) : vRR w c d := sSl_v (sSl_v sR_v) c d F h
theorem vRR_get {w : World} {A : Option Addr} {n c : Nat} {d : List (List (Int × Int))} (h : vRR w [.slice A n c] d) : n = d.length ∧ RRR w A d := by
  obtain ⟨A', c', e, h⟩ := h
  injection e with e
  injection e with e1 e2 e3
  subst e1
  exact ⟨e2, h⟩
theorem sRR_form {w : World} {v : Value} {d : List (List (Int × Int))} {F : List Nat} (h : sRR w [v] d F) : ∃ A c, v = .slice A d.length c := by
  obtain ⟨v', e, h⟩ := h
  injection e with e
  subst e
  obtain ⟨A, c, e, _⟩ := h.form
  exact ⟨A, c, e⟩
theorem szRR_le {left : Int} {xs : List (List (Int × Int))} (h : 0 ≤ szN szR left xs) : szN szR left xs ≤ left := szN_le (fun l x h => by have := szR_sub l x h; omega) h
theorem szRR_small {left : Int} {xs : List (List (Int × Int))} (h : 0 ≤ szN szR left xs) (hl : left ≤ 1048576) : BSS xs := by
  have := szN_small (c := List.length) (szR_sub) h
  exact ⟨by omega, by omega⟩
theorem szRationalSS_d {A : Option Addr} {c : Nat} {d : List (List (Int × Int))} {left : Int} {w : World} (hq : QSS d) (h : vRR w [.slice A d.length c] d) (h1 : 0 ≤ left) (h2 : left ≤ 1000000000) :
    Calls Try.prog 7 #[.slice A d.length c, .int .i64 left] w fun e w' => e = .returned (.int .i64 (szN szR left d)) ∧ ∃ y, w' = ext w y :=
  szRationalSS_any (le_maxLen hq.1) (vRR_get h).2 (fun x hx => le_maxLen (hq.2 x hx)) h1 h2
theorem toRationalSS_d {A : Option Addr} {c : Nat} {d : List (List (Int × Int))} {w : World} (hb : BSS d) (h : vRR w [.slice A d.length c] d) :
    Calls Try.prog 10 #[.slice A d.length c] w fun e w' => ∃ v F, e = .returned v ∧ (∃ y, w' = ext w y) ∧ sRR w' [v] d F ∧ F.Nodup ∧ ∀ b ∈ F, w.heap.size ≤ b := by
  refine (toRationalSS_any hb.1 (vRR_get h).2 hb.each).mono ?_
  rintro e w' ⟨v, F, h1, h2, h3, h4⟩
  exact ⟨v, F, h1, h2, ⟨v, rfl, h3⟩, h4⟩
theorem eqRationalSS_d {A A' : Option Addr} {c c' : Nat} {d d' : List (List (Int × Int))} {w : World} (hb : BSS d) (h : vRR w [.slice A d.length c] d) (hb' : BSS d') (h' : vRR w [.slice A' d'.length c'] d') :
    Calls Try.prog 14 #[.slice A d.length c, .slice A' d'.length c'] w fun e w' => e = .returned (.bool (decide (d = d'))) ∧ ∃ y, w' = ext w y :=
  eqRationalSS_any (Nat.le_trans hb.1 (by omega)) (vRR_get h).2 hb.big (Nat.le_trans hb'.1 (by omega)) (vRR_get h').2 hb'.big
theorem mkR_tot {d : List (List (Int × Int))} (hb : BSS d) : (d.map fun x => 2 * x.length).sum ≤ 3000000 := by
  have := hb.2
  rw [sum_mul]
  omega
theorem markRationalSS_d {v : Value} {d : List (List (Int × Int))} {F : List Nat} {k0 : Int} {w : World} (hb : BSS d) (h : sRR w [v] d F) (hN : F.Nodup) (h0 : 0 ≤ k0) (hk0 : k0 ≤ 90000000000) :
    Calls Try.prog 15 #[v, .int .i64 k0] w fun e w' => ∃ k', e = .returned (.int .i64 k') ∧ Hid ((mkN mkR k0 d).2 = k') ∧ k0 ≤ k' ∧ k' ≤ k0 + 3000000 ∧ sRR w' [v] (mkN mkR k0 d).1 F ∧ Chg F w w' := by
  have hm := mkR_tot hb
  obtain ⟨v', e, h⟩ := h
  injection e with e
  subst e
  refine (markRationalSS_any (Nat.le_trans hb.1 (by omega)) hb.big h hN h0 (by omega)).mono ?_
  rintro e w' ⟨h1, h2, h3⟩
  refine ⟨_, h1, Lib.hid rfl, ?_, ?_, ⟨_, rfl, h2⟩, h3⟩ <;> (rw [mkR_sum]; omega)
end Go.Proofs.Ytbjpkfgkmilkdaa
namespace Go.Proofs.Ytbjpkfgkmilkdaa
open Go.ChangeShapes Go.WideShapes Go.ChangeAt Go.RowKit
def inB (x a b : Int) : Bool := decide (a ≤ x ∧ x ≤ b)
theorem inB_t {x a b : Int} (h : inB x a b = true) : a ≤ x ∧ x ≤ b := by simpa [inB] using h
theorem within_any (x a b : Int) (w : World) : Calls Try.prog 76 #[.int .i64 x, .int .i64 a, .int .i64 b] w fun e w' => e = .returned (.bool (inB x a b)) ∧ w = w' := by
  unfold inB
  by_cases h1 : a ≤ x <;> by_cases h2 : x ≤ b <;> (go_enter Try.func76, Try.ntmps76; go_wp2; go_ret; exact ⟨by simp [h1, h2], rfl⟩)
theorem l1In_any (x a b : Int) (w : World) : Calls Try.prog 72 #[.int .i64 x, .int .i64 a, .int .i64 b] w fun e w' => e = .returned (.bool (inB x a b)) ∧ w = w' := by
  unfold inB
  by_cases h1 : a ≤ x <;> by_cases h2 : x ≤ b <;> (go_enter Try.func72, Try.ntmps72; go_wp2; go_ret; exact ⟨by simp [h1, h2], rfl⟩)
end Go.Proofs.Ytbjpkfgkmilkdaa
