/- Contracts of functions that the statement reaches. -/
import Derived.WalkKit
import Derived.WalkSpells
import Derived.WalkLawsBesides
import Derived.Deep.QuietTactic
import Derived.BigQuiet
import Derived.Outline
import Derived.Lib.Hide
import Derived.ProofKit
import Derived.Deep.RegionHeld3
import Derived.Deep.Cut
import Derived.Test.YtgnmpjjlclbieaaRows
import Derived.Maps.AppendAt
import Derived.Deep.Slices
namespace Go.Proofs.Ytgnmpjjlclbieaa
open Go.RowKit
def ext (w x : World) : World := { x with os := w.os, tape := w.tape, output := w.output, heap := w.heap ++ x.heap.extract w.heap.size x.heap.size }
theorem below_ext (w x : World) : Below w.heap.size w (ext w x) :=
  ⟨rfl, rfl, rfl, by simp [ext], fun k hk => by simp [ext, Array.getElem?_append, hk]⟩
theorem ext_of_below {w x : World} (h : Below w.heap.size w x) : ext w x = x := by
  obtain ⟨h1, h2, h3, h4, h5⟩ := h
  have hh : w.heap ++ x.heap.extract w.heap.size x.heap.size = x.heap := by
    apply Array.ext_getElem?
    intro i
    rw [Array.getElem?_append]
    split
    · rename_i hi; exact (h5 i hi).symm
    · rename_i hi
      rw [Array.getElem?_extract]
      split
      · congr 1; omega
      · rw [Array.getElem?_eq_none (by omega)]
  unfold ext
  rw [hh, ← h1, ← h2, ← h3]
theorem isExt {w x : World} (h : Below w.heap.size w x) : ∃ y, x = ext w y := ⟨x, (ext_of_below h).symm⟩
section
variable {w x y : World} {a : Addr} {b : Nat}
theorem size_ext : w.heap.size ≤ (ext w x).heap.size := (below_ext w x).size
@[go_sem] theorem cell_ext (h : a.block < w.heap.size) : (ext w x).cell? a = w.cell? a := (below_ext w x).cell h
@[go_sem] theorem frozen_ext (h : a.block < w.heap.size) : (ext w x).frozen? a = w.frozen? a := (below_ext w x).frozen h
@[simp, go_sem] theorem tape_ext : (ext w x).tape = w.tape := rfl
@[go_sem] theorem lt_ext (h : b < w.heap.size) : b < (ext w x).heap.size := Nat.lt_of_lt_of_le h size_ext
@[go_sem] theorem le_ext (h : b ≤ w.heap.size) : b ≤ (ext w x).heap.size := Nat.le_trans h size_ext
@[go_sem] theorem le_size (h : b < w.heap.size) : b ≤ w.heap.size := Nat.le_of_lt h
theorem ext_ext : ext (ext w x) y = ext w (ext (ext w x) y) := (ext_of_below ((below_ext w x).trans ((below_ext _ y).mono size_ext))).symm
end
attribute [irreducible] ext
theorem drew_ext (w : World) : ∃ y, w.drew = ext w y := isExt ⟨rfl, rfl, rfl, Nat.le_refl _, fun _ _ => rfl⟩
theorem alloc_ext (w : World) (o : Obj) : ∃ y, w.alloc o = ext w y := isExt ((Below.refl _ _).alloc (Nat.le_refl _) o)
theorem refl_ext (w : World) : ∃ y, w = ext w y := isExt (Below.refl _ _)
theorem trans_ext {w w1 w2 : World} (h : ∃ y, w1 = ext w y) (k : ∃ y, w2 = ext w1 y) : ∃ y, w2 = ext w y := by
  obtain ⟨y, rfl⟩ := h
  obtain ⟨z, rfl⟩ := k
  exact ⟨_, ext_ext⟩
theorem wp_region_ext {P : Program} {id : Nat} {Q : Exit → Act → World → Prop} {a : Act} {w : World} {l : List Oper} (hm : P.follows .mixedOrders = true) (hB : Region.lexB .any l.toArray = true)
    (h : wpQuiet P l.toArray (fun w' => ∃ y, w' = ext w y) (fun a' => ∀ w', (∃ y, w' = ext w y) → Q .normal a' w') l a) : (Code.region id l.toArray true).wp P Q a w :=
  wp_region_quiet (C := fun w' => ∃ y, w' = ext w y) hm hB (drew_ext w) (by simpa using h)
theorem quietE {P : Program} {f : FuncId} {args : Array Value} {w y : World} {v : Value}
    (h : Calls P f args (ext w y) fun e w' => e = .returned v ∧ ∃ z, w' = ext (ext w y) z) : Calls P f args (ext w y) fun e w' => e = .returned v ∧ ∃ z, w' = ext w z :=
  h.mono fun _ _ ⟨he, hz⟩ => ⟨he, trans_ext ⟨y, rfl⟩ hz⟩
theorem quietS {P : Program} {f : FuncId} {args : Array Value} {w y : World} {v : Value}
    (h : Calls P f args (ext w y) fun e w' => e = .returned v ∧ ext w y = w') : Calls P f args (ext w y) fun e w' => e = .returned v ∧ ∃ z, w' = ext w z :=
  h.mono fun _ _ ⟨he, hz⟩ => ⟨he, y, hz.symm⟩
theorem quietSb {P : Program} {f : FuncId} {args : Array Value} {w y : World} {c b : Bool}
    (h : Calls P f args (ext w y) fun e w' => e = .returned (.bool c) ∧ ext w y = w') (hc : c = b) : Calls P f args (ext w y) fun e w' => e = .returned (.bool b) ∧ ∃ z, w' = ext w z := by
  subst hc; exact quietS h
theorem quietEb {P : Program} {f : FuncId} {args : Array Value} {w y : World} {c b : Bool}
    (h : Calls P f args (ext w y) fun e w' => e = .returned (.bool c) ∧ ∃ z, w' = ext (ext w y) z) (hc : c = b) : Calls P f args (ext w y) fun e w' => e = .returned (.bool b) ∧ ∃ z, w' = ext w z := by
  subst hc; exact quietE h
theorem wp_name {P : Program} {c : Code} {Q : Exit → Act → World → Prop} {a : Act} {w : World} (h : ∀ W, Hid (W = w) → c.wp P Q a W) : c.wp P Q a w := h w rfl
theorem heldE {W w' : World} (h : ∃ y, w' = ext W y) : (∀ a : Addr, a.block < W.heap.size → w'.cell? a = W.cell? a) ∧ ∃ y, w' = ext W y := by
  obtain ⟨y, rfl⟩ := h
  exact ⟨fun a ha => cell_ext ha, y, rfl⟩
end Go.Proofs.Ytgnmpjjlclbieaa
namespace Go.Proofs.Ytgnmpjjlclbieaa
open Go.ChangeShapes Go.WideShapes Go.ChangeAt Go.RowKit
theorem Try.own : ownKnob Try.prog.godebug = none := by kernel_rfl
theorem Try.laidOut : laidOutB Try.prog = true := by kernel_rfl
section
variable {H : Type} {enc : TypeId × Value → H} {P : Program} {W W' : World}
theorem trodAll_keep (hl : laidOutB P = true) (hb : Below W.heap.size W W') {sp : Nat → Bool} : ∀ {ts : List TypeId} {vs : List Value} {ds : List (DataW H)} {ps : List MemPlace},
    (ts.all fun t => P.readableRec t && decide (t < P.types.size)) = true → DataW.TrodAll enc P W 0 (fun _ => true) true ts vs ds ps → (∀ p ∈ ps, p.block < W.heap.size) → (∀ p ∈ ps, sp p.block = true) →
    DataW.TrodAll enc P W' 0 sp true ts vs ds ps
  | [], vs, ds, ps, _, h, _, _ => by
    obtain ⟨rfl, rfl, rfl⟩ := trodAll_nil h
    exact trodAll_mk0
  | t :: ts, vs, ds, ps, hr, h, hlt, hs => by
    obtain ⟨v, vs', d, ds', p, q, rfl, rfl, rfl, h1, h2⟩ := trodAll_cons h
    simp only [List.all_cons, Bool.and_eq_true, decide_eq_true_eq] at hr
    refine ⟨p, q, WideElems.Trod_stays hl hr.1.1 hr.1.2 h1 (fun x hx => hb.same (hlt x (by simp [hx]))) (fun x hx => hs x (by simp [hx])), ?_, rfl⟩
    exact trodAll_keep hl hb (by simpa using hr.2) h2 (fun x hx => hlt x (by simp [hx])) (fun x hx => hs x (by simp [hx]))
theorem law_post (hl : laidOutB P = true) {f : Func} {s : ChangeSpec} {args : Array Value} {ds gs : List (DataW H)} {before : List MemPlace} {tb : TypeId}
    (hW : DataW.Whole enc P f.params.toList s.vars false W args.toList ds gs before) (hv : s.vars = []) (hfn : s.fn H (ds ++ []) = { results := [.lit (.bool true)], args := ds })
    (hres : f.resultTypes = #[tb]) (ht : P.underlying tb = some .bool) (hread : (f.params.toList.all fun t => P.readableRec t && decide (t < P.types.size)) = true) (hx : ∃ y, W' = ext W y) :
    s.post enc P f false true false false W args (.bool true) W' := by
  have hb : Below W.heap.size W W' := by
    obtain ⟨y, rfl⟩ := hx
    exact below_ext W y
  have hlt : ∀ p ∈ before, p.block < W.heap.size := fun p hp => hW.lt p hp
  have hW2 := hW
  obtain ⟨p, q, hA, hV, rfl, hfz, hnd⟩ := hW2
  rw [hv] at hV
  obtain ⟨rfl, rfl⟩ := trodVars_none hV
  simp only [List.append_nil] at hlt hW
  refine ⟨ds, [], p, [], p, [], hW, ?_, ?_, ?_, World.keptBut_mono (fun x hx => ⟨hx, .inr (.inl hx)⟩) (hb.frame (· ∈ p)), fun h => by cases h⟩
  · rw [hfn, hres]
    exact trodAll_mk1 ⟨1, by simp [DataW.trod, Value.cells, ht]⟩
  · rw [hfn]
    exact trodAll_keep hl hb hread hA hlt (fun x hx => by simpa using hlt x hx)
  · rw [hfn, hv]
    rfl
end
end Go.Proofs.Ytgnmpjjlclbieaa
namespace Go.Proofs.Ytgnmpjjlclbieaa
open Go.RowKit
theorem le_addk {a n : Nat} (h : a ≤ n) (k : Nat) : a ≤ n + k := Nat.le_trans h (Nat.le_add_right n k)
theorem le_alloc {a : Nat} {w : World} (h : a ≤ w.heap.size) (o : Obj) : a ≤ (w.alloc o).heap.size := by rw [World.size_alloc]; omega
theorem le_setC {a : Nat} {w : World} (h : a ≤ w.heap.size) (p : Addr) (u : Value) : a ≤ (w.setCell p u).heap.size := by rw [World.size_setCell]; exact h
theorem le_drew {a : Nat} {w : World} (h : a ≤ w.heap.size) : a ≤ w.drew.heap.size := h
theorem str_beq (s t : ByteArray) : (s.toList == t.toList) = decide (s = t) := by
  by_cases h : s = t
  · subst h; simp
  · rw [decide_eq_false h, beq_eq_false_iff_ne]
    intro e
    rw [ByteArray.toList_eq, ByteArray.toList_eq] at e
    exact h (Go.WideShapes.bytes_inj e)
structure Chg (F : List Nat) (w w' : World) : Prop where
  os : w'.os = w.os
  tape : w'.tape = w.tape
  output : w'.output = w.output
  size : w.heap.size ≤ w'.heap.size
  block : ∀ k, k < w.heap.size → k ∉ F → w'.heap[k]? = w.heap[k]?
theorem Chg.refl (F : List Nat) (w : World) : Chg F w w := ⟨rfl, rfl, rfl, Nat.le_refl _, fun _ _ _ => rfl⟩
theorem Chg.trans {F G : List Nat} {a b c : World} (h : Chg F a b) (k : Chg G b c) (hG : ∀ x ∈ G, x ∈ F ∨ a.heap.size ≤ x) : Chg F a c :=
  ⟨k.os.trans h.os, k.tape.trans h.tape, k.output.trans h.output, Nat.le_trans h.size k.size, fun i hi hF => by
    rw [k.block i (Nat.lt_of_lt_of_le hi h.size) (fun hg => by
      rcases hG i hg with h1 | h1
      · exact hF h1
      · omega), h.block i hi hF]⟩
theorem Chg.mono {F G : List Nat} {a b : World} (h : Chg F a b) (hG : ∀ x ∈ F, x ∈ G ∨ a.heap.size ≤ x) : Chg G a b :=
  ⟨h.os, h.tape, h.output, h.size, fun i hi hF => h.block i hi (fun hf => by
    rcases hG i hf with h1 | h1
    · exact hF h1
    · omega)⟩
theorem Chg.ofExt {F : List Nat} {w w' : World} (h : ∃ y, w' = ext w y) : Chg F w w' := by
  obtain ⟨y, rfl⟩ := h
  have hb := below_ext w y
  exact ⟨hb.os, hb.tape, hb.output, hb.size, fun k hk _ => hb.block k hk⟩
theorem Chg.cell {F : List Nat} {w w' : World} (h : Chg F w w') {b o : Nat} (hb : b ∉ F) (hl : b < w.heap.size) : w'.cell? ⟨b, o, none⟩ = w.cell? ⟨b, o, none⟩ := World.cell?_of_block (h.block b hl hb)
theorem Chg.alloc {F : List Nat} {a w : World} (h : Chg F a w) (o : Obj) : Chg F a (w.alloc o) := h.trans (Chg.ofExt (F := []) (alloc_ext w o)) (by simp)
theorem Chg.drew {F : List Nat} {a w : World} (h : Chg F a w) : Chg F a w.drew := h.trans (Chg.ofExt (F := []) (drew_ext w)) (by simp)
theorem Chg.setCell {F : List Nat} {a w : World} (h : Chg F a w) {p : Addr} (hp : p.block ∈ F ∨ a.heap.size ≤ p.block) (u : Value) : Chg F a (w.setCell p u) :=
  ⟨h.os, h.tape, h.output, by simpa using h.size, fun k hk hF => by
    rw [Below.heap_setCell w p u k (fun e => by
      rcases hp with h1 | h1
      · exact hF (by rw [e]; exact h1)
      · omega), h.block k hk hF]⟩
theorem Chg.setCellE {F : List Nat} {a w : World} (h : Chg F a w) {b o : Nat} {s : Option Nat} (hp : a.heap.size ≤ b) (u : Value) : Chg F a (w.setCell ⟨b, o, s⟩ u) := h.setCell (.inr hp) u
theorem Chg.extS {F : List Nat} {a w : World} (h : Chg F a w) (y : World) : Chg F a (ext w y) := h.trans (Chg.ofExt (F := []) ⟨y, rfl⟩) (by simp)
theorem Chg.isExt {F : List Nat} {w0 w w' : World} (h : Chg F w w') (h0 : ∃ y, w = ext w0 y) (hF : ∀ x ∈ F, w0.heap.size ≤ x) : ∃ y, w' = ext w0 y := by
  obtain ⟨y, rfl⟩ := h0
  have hb := below_ext w0 y
  exact Go.Proofs.Ytgnmpjjlclbieaa.isExt ⟨h.os.trans hb.os, h.tape.trans hb.tape, h.output.trans hb.output, Nat.le_trans hb.size h.size, fun k hk => by
    rw [h.block k (Nat.lt_of_lt_of_le hk hb.size) (fun hf => by have := hF k hf; omega), hb.block k hk]⟩
theorem Chg.ofGrown {w w' : World} {row : Option Nat} {F : List Nat} (h : w.grownBy w' row) (hF : ∀ k, row = some k → k ∈ F) : Chg F w w' :=
  ⟨h.os, h.tape, h.output, h.size, fun k hk hn => h.block k hk (fun e => hn (hF k e.symm))⟩
def BoxAt (w : World) (B : Nat) (cs : Array Value) : Prop := B < w.heap.size ∧ (∀ j, w.cell? ⟨B, j, none⟩ = cs[j]?) ∧ ∀ j, w.frozen? ⟨B, j, none⟩ = false
section
variable {w w' : World} {B : Nat} {cs : Array Value}
theorem BoxAt.new (w : World) (cs : Array Value) (t : TypeId) : BoxAt (w.alloc (.cells cs t)) w.heap.size cs := ⟨by simp, fun j => by simp, fun j => frozen_of_row _ _ _ _ _ (heap_alloc_new w _)⟩
theorem BoxAt.keep (h : BoxAt w B cs) (hk : w'.heap[B]? = w.heap[B]?) (hs : w.heap.size ≤ w'.heap.size) : BoxAt w' B cs := ⟨Nat.lt_of_lt_of_le h.1 hs, fun j => (World.cell?_of_block hk).trans (h.2.1 j), fun j => (World.frozen?_of_block hk).trans (h.2.2 j)⟩
theorem BoxAt.toExt (h : BoxAt w B cs) (hx : ∃ y, w' = ext w y) : BoxAt w' B cs := by
  obtain ⟨y, rfl⟩ := hx
  exact h.keep ((below_ext w y).block B h.1) size_ext
theorem BoxAt.alloc (h : BoxAt w B cs) (o : Obj) : BoxAt (w.alloc o) B cs := h.toExt (alloc_ext w o)
theorem BoxAt.drew (h : BoxAt w B cs) : BoxAt w.drew B cs := h
theorem BoxAt.chg {F : List Nat} (h : BoxAt w B cs) (hc : Chg F w w') (hB : B ∉ F) : BoxAt w' B cs := h.keep (hc.block B h.1 hB) hc.size
theorem Chg.trans0 {F : List Nat} {a b c : World} (h : Chg F a b) (k : ∃ y, c = ext b y) : Chg F a c := h.trans (Chg.ofExt (F := []) k) (by simp)
end
abbrev VE (α : Type) := World → List Value → α → Prop
class VMono {α : Type} (E : VE α) : Prop where
  ext : ∀ {w x c d}, E w c d → E (ext w x) c d
def RV {α : Type} (size : Nat) (E : VE α) (w : World) (A : Option Addr) (ds : List α) : Prop :=
  ds ≠ [] → ∃ b o, A = some ⟨b, o, none⟩ ∧ b < w.heap.size ∧ ∀ j (h : j < ds.length), ∃ c : List Value, c.length = size ∧ (∀ i (hi : i < c.length), w.cell? ⟨b, o + j * size + i, none⟩ = some c[i]) ∧ E w c ds[j]
section
variable {α : Type} {size : Nat} {E : VE α} {w x : World} {A : Option Addr} {ds : List α}
theorem RV.ext [VMono E] (h : RV size E w A ds) : RV size E (ext w x) A ds := fun hn => by
  obtain ⟨b, o, h1, h2, h3⟩ := h hn
  refine ⟨b, o, h1, lt_ext h2, fun j hj => ?_⟩
  obtain ⟨c, hc, hr, he⟩ := h3 j hj
  exact ⟨c, hc, fun i hi => by rw [cell_ext h2]; exact hr i hi, VMono.ext he⟩
theorem RV.toExt [VMono E] {w' : World} (h : RV size E w A ds) (hx : ∃ y, w' = Go.Proofs.Ytgnmpjjlclbieaa.ext w y) : RV size E w' A ds := by
  obtain ⟨y, rfl⟩ := hx
  exact h.ext
theorem RV.nil : RV size E w A ([] : List α) := fun h => absurd rfl h
theorem RV.get (h : RV size E w A ds) {k : Nat} (hk : k < ds.length) : ∃ b o, A = some ⟨b, o, none⟩ ∧ b < w.heap.size ∧ ∃ c : List Value, c.length = size ∧ (∀ i (hi : i < c.length), w.cell? ⟨b, o + k * size + i, none⟩ = some c[i]) ∧ E w c ds[k] := by
  obtain ⟨b, o, h1, h2, h3⟩ := h (by intro h; subst h; simp at hk)
  exact ⟨b, o, h1, h2, h3 k hk⟩
theorem RV.cut (h : RV size E w A ds) {lo hi : Nat} (hl : lo ≤ hi) (hh : hi ≤ ds.length) {A' : Option Addr} (hA : ∀ b o, A = some ⟨b, o, none⟩ → lo < hi → A' = some ⟨b, o + lo * size, none⟩) : RV size E w A' ((ds.take hi).drop lo) := fun hn => by
  have hlt : lo < hi := by
    rcases Nat.lt_or_ge lo hi with h1 | h1
    · exact h1
    · exact absurd (List.drop_eq_nil_of_le (by simp; omega)) hn
  obtain ⟨b, o, h1, h2, h3⟩ := h (by intro h; subst h; simp at hh; omega)
  refine ⟨b, o + lo * size, hA b o h1 hlt, h2, fun j hj => ?_⟩
  simp only [List.length_drop, List.length_take] at hj
  obtain ⟨c, hc, hr, he⟩ := h3 (lo + j) (by omega)
  refine ⟨c, hc, fun i hi => ?_, ?_⟩
  · rw [← hr i hi]
    congr 2
    rw [Nat.add_mul]
    omega
  · simpa using he
end
def vI : VE Int := fun _ c n => c = [.int .i64 n]
def vR : VE (Int × Int) := fun _ c r => c = [.int .i64 r.1, .int .i64 r.2]
def vS : VE ByteArray := fun _ c s => c = [.string s]
def vB : VE Bool := fun _ c b => c = [.bool b]
def vSl {α : Type} (size : Nat) (E : VE α) : VE (List α) := fun w c ds => ∃ A cap, c = [.slice A ds.length (ds.length + cap)] ∧ RV size E w A ds
instance : VMono vI := ⟨fun h => h⟩
instance : VMono vR := ⟨fun h => h⟩
instance : VMono vS := ⟨fun h => h⟩
instance : VMono vB := ⟨fun h => h⟩
instance {α : Type} (size : Nat) (E : VE α) [VMono E] : VMono (vSl size E) := ⟨fun ⟨A, cap, h, k⟩ => ⟨A, cap, h, k.ext⟩⟩
abbrev RI := RV 1 vI
abbrev RII := RV 1 (vSl 1 vI)
section
variable {w : World} {A : Option Addr} {k : Nat}
theorem RV.atI {xs : List Int} (h : RI w A xs) (hk : k < xs.length) : ∃ b o, A = some ⟨b, o, none⟩ ∧ b < w.heap.size ∧ w.cell? ⟨b, o + k, none⟩ = some (.int .i64 xs[k]) := by
  obtain ⟨b, o, h1, h2, c, hc, hr, he⟩ := h.get hk
  simp only [vI] at he
  subst he
  exact ⟨b, o, h1, h2, by simpa using hr 0 (by simp)⟩
theorem RV.atV {α : Type} {size : Nat} {E : VE α} {xs : List (List α)} (h : RV 1 (vSl size E) w A xs) (hk : k < xs.length) : ∃ b o A' c', A = some ⟨b, o, none⟩ ∧ b < w.heap.size ∧ w.cell? ⟨b, o + k, none⟩ = some (.slice A' xs[k].length c') ∧ RV size E w A' xs[k] := by
  obtain ⟨b, o, h1, h2, c, hc, hr, he⟩ := h.get hk
  obtain ⟨A', c', rfl, hv⟩ := he
  exact ⟨b, o, A', _, h1, h2, by simpa using hr 0 (by simp), hv⟩
end
abbrev SE (α : Type) := World → List Value → α → List Nat → Prop
class SMono {α : Type} (E : SE α) : Prop where
  lt : ∀ {w c d F}, E w c d F → ∀ b ∈ F, b < w.heap.size
  keep : ∀ {w w' : World} {c d F}, E w c d F → (∀ b ∈ F, w'.heap[b]? = w.heap[b]?) → E w' c d F
def fpOf (v : Value) : List Nat := match v.ownBlock with | some b => [b] | none => []
theorem mem_fpOf {v : Value} {b : Nat} : b ∈ fpOf v ↔ v.ownBlock = some b := by
  unfold fpOf
  cases v.ownBlock <;> simp [eq_comm]
def elems {α : Type} (size : Nat) (E : SE α) (w : World) : List Value → List α → List Nat → Prop
  | vs, [], F => vs = [] ∧ F = []
  | vs, d :: ds, F => ∃ c vs' F1 F2, vs = c ++ vs' ∧ c.length = size ∧ E w c d F1 ∧ elems size E w vs' ds F2 ∧ F = F1 ++ F2
section
variable {α : Type} {size : Nat} {E : SE α} {w w' : World}
theorem elems_append : ∀ {vs us : List Value} {ds es : List α} {F G : List Nat}, elems size E w vs ds F → elems size E w us es G → elems size E w (vs ++ us) (ds ++ es) (F ++ G)
  | _, us, [], es, _, G, ⟨h1, h2⟩, k => by subst h1 h2; simpa using k
  | _, us, d :: ds, es, _, G, ⟨c, vs', F1, F2, h1, h2, h3, h4, h5⟩, k => by
    subst h1 h5
    exact ⟨c, vs' ++ us, F1, F2 ++ G, by simp, h2, h3, elems_append h4 k, by simp⟩
theorem elems_one {c : List Value} {d : α} {F : List Nat} (hc : c.length = size) (h : E w c d F) : elems size E w c [d] F := ⟨c, [], F, [], by simp, hc, h, ⟨rfl, rfl⟩, by simp⟩
theorem elems_split : ∀ {vs : List Value} {ds es : List α} {F : List Nat}, elems size E w vs (ds ++ es) F → ∃ vs1 vs2 F1 F2, vs = vs1 ++ vs2 ∧ F = F1 ++ F2 ∧ elems size E w vs1 ds F1 ∧ elems size E w vs2 es F2
  | vs, [], es, F, h => ⟨[], vs, [], F, rfl, rfl, ⟨rfl, rfl⟩, h⟩
  | _, d :: ds, es, _, ⟨c, vs', F1, F2, h1, h2, h3, h4, h5⟩ => by
    obtain ⟨u1, u2, G1, G2, e1, e2, k1, k2⟩ := elems_split h4
    subst h1 h5 e1 e2
    exact ⟨c ++ u1, u2, F1 ++ G1, G2, by simp, by simp, ⟨c, u1, F1, G1, rfl, h2, h3, k1, rfl⟩, k2⟩
theorem elems_length : ∀ {vs : List Value} {ds : List α} {F : List Nat}, elems size E w vs ds F → vs.length = ds.length * size
  | _, [], _, ⟨h1, _⟩ => by simp [h1]
  | _, d :: ds, _, ⟨c, vs', F1, F2, h1, h2, _, h4, _⟩ => by
    have := elems_length h4
    subst h1
    simp only [List.length_append, List.length_cons, h2, this, Nat.add_mul]
    omega
theorem elems_keep [SMono E] : ∀ {vs : List Value} {ds : List α} {F : List Nat}, elems size E w vs ds F → (∀ b ∈ F, w'.heap[b]? = w.heap[b]?) → elems size E w' vs ds F
  | _, [], _, h, _ => h
  | _, d :: ds, _, ⟨c, vs', F1, F2, h1, h2, h3, h4, h5⟩, hk => by
    subst h5
    exact ⟨c, vs', F1, F2, h1, h2, SMono.keep h3 (fun b hb => hk b (by simp [hb])), elems_keep h4 (fun b hb => hk b (by simp [hb])), rfl⟩
theorem elems_lt [SMono E] : ∀ {vs : List Value} {ds : List α} {F : List Nat}, elems size E w vs ds F → ∀ b ∈ F, b < w.heap.size
  | _, [], _, ⟨_, h2⟩, b, hb => by subst h2; simp at hb
  | _, d :: ds, _, ⟨c, vs', F1, F2, h1, h2, h3, h4, h5⟩, b, hb => by
    subst h5
    rcases List.mem_append.1 hb with h | h
    · exact SMono.lt h3 b h
    · exact elems_lt h4 b h
theorem elems_at : ∀ {vs : List Value} {ds : List α} {F : List Nat} {k : Nat} (_ : elems size E w vs ds F) (hk : k < ds.length), ∃ c F1 F2 F3, (vs.drop (k * size)).take size = c ∧ c.length = size ∧ E w c ds[k] F2 ∧ F = F1 ++ F2 ++ F3
  | _, d :: ds, _, 0, ⟨c, vs', F1, F2, h1, h2, h3, _, h5⟩, _ => by
    subst h1 h5
    exact ⟨c, [], F1, F2, by simp [h2], h2, h3, by simp⟩
  | _, d :: ds, _, k + 1, ⟨c, vs', F1, F2, h1, h2, h3, h4, h5⟩, hk => by
    subst h1 h5
    obtain ⟨c', G1, G2, G3, e1, e2, e3, e4⟩ := elems_at (k := k) h4 (by simpa using hk)
    refine ⟨c', F1 ++ G1, G2, G3, ?_, e2, by simpa using e3, by simp [e4]⟩
    rw [← e1, show (k + 1) * size = c.length + k * size by rw [h2, Nat.add_mul]; omega, List.drop_append, List.drop_eq_nil_of_le (Nat.le_add_right _ _)]
    simp
end
def SV {α : Type} (te size : Nat) (E : SE α) (w : World) (v : Value) (ds : List α) (F : List Nat) : Prop :=
  ∃ vs F2, w.ownsRow 0 te size v ds.length vs ∧ elems size E w vs ds F2 ∧ F = fpOf v ++ F2
section
variable {α : Type} {te size : Nat} {E : SE α} {w w' : World} {v : Value} {ds : List α} {F : List Nat}
theorem ownsRow_keepB {n : Nat} {vs : List Value} (h : w.ownsRow 0 te size v n vs) (hk : ∀ b ∈ fpOf v, w'.heap[b]? = w.heap[b]?) : w'.ownsRow 0 te size v n vs := by
  refine ⟨h.1, ?_⟩
  rcases h.2 with hn | ⟨g, cap, cur, rfl, hb, hg, rest⟩
  · exact .inl hn
  · exact .inr ⟨g, cap, cur, rfl, hb, by rw [hk g (mem_fpOf.2 rfl)]; exact hg, rest⟩
theorem SV.lt [SMono E] (h : SV te size E w v ds F) : ∀ b ∈ F, b < w.heap.size := by
  obtain ⟨vs, F2, h1, h2, rfl⟩ := h
  intro b hb
  rcases List.mem_append.1 hb with h | h
  · exact (h1.lt b (mem_fpOf.1 h)).2
  · exact elems_lt h2 b h
theorem SV.keep [SMono E] (h : SV te size E w v ds F) (hk : ∀ b ∈ F, w'.heap[b]? = w.heap[b]?) : SV te size E w' v ds F := by
  obtain ⟨vs, F2, h1, h2, rfl⟩ := h
  exact ⟨vs, F2, ownsRow_keepB h1 (fun b hb => hk b (by simp [hb])), elems_keep h2 (fun b hb => hk b (by simp [hb])), rfl⟩
theorem SV.ext [SMono E] {x : World} (h : SV te size E w v ds F) : SV te size E (ext w x) v ds F := h.keep fun b hb => (below_ext w x).block b (h.lt b hb)
theorem SV.toExt [SMono E] (h : SV te size E w v ds F) (hx : ∃ y, w' = Go.Proofs.Ytgnmpjjlclbieaa.ext w y) : SV te size E w' v ds F := by
  obtain ⟨y, rfl⟩ := hx
  exact h.ext
theorem SV.chg [SMono E] {G : List Nat} (h : SV te size E w v ds F) (hc : Chg G w w') (hd : ∀ b ∈ F, b ∉ G) : SV te size E w' v ds F := h.keep fun b hb => hc.block b (h.lt b hb) (hd b hb)
theorem SV.form (h : SV te size E w v ds F) : ∃ A cap, v = .slice A ds.length cap ∧ ds.length ≤ cap ∧ Hid (cap ≤ maxLen) := by
  obtain ⟨vs, F2, h1, _, _⟩ := h
  rcases h1.2 with ⟨rfl, hn⟩ | ⟨g, cap, cur, rfl, _, _, h3, h4, _⟩
  · exact ⟨none, 0, by rw [hn], by omega, Lib.hid (by simp [maxLen])⟩
  · exact ⟨_, cap, rfl, h3, h4⟩
theorem SV.nil : SV te size E w (.slice none 0 0) ([] : List α) [] := ⟨[], [], World.ownsRow_nil w 0 te size, ⟨rfl, rfl⟩, rfl⟩
theorem SV.block (h : SV te size E w v ds F) (hn : ds ≠ []) : ∃ g cap, v = .slice (some ⟨g, 0, none⟩) ds.length cap ∧ g ∈ F ∧ ds.length ≤ cap ∧ Hid (cap ≤ maxLen) := by
  obtain ⟨vs, F2, h1, _, rfl⟩ := h
  rcases h1.2 with ⟨rfl, h0⟩ | ⟨g, cap, cur, rfl, _, _, h3, h4, _⟩
  · exact absurd (List.eq_nil_of_length_eq_zero h0) hn
  · exact ⟨g, cap, rfl, by simp [mem_fpOf, Value.ownBlock], h3, h4⟩
theorem SV.view {V : VE α} (h : SV te size E w v ds F) (hV : ∀ c d F, E w c d F → V w c d) : ∃ A cap, v = .slice A ds.length cap ∧ ds.length ≤ cap ∧ Hid (cap ≤ maxLen) ∧ RV size V w A ds := by
  obtain ⟨vs, F2, h1, h2, _⟩ := h
  rcases h1.2 with ⟨rfl, h0⟩ | ⟨g, cap, cur, hv, _, hg, h3, h4, h5, h6⟩
  · obtain rfl := List.eq_nil_of_length_eq_zero h0
    exact ⟨none, 0, rfl, by simp, Lib.hid (by simp [maxLen]), RV.nil⟩
  · refine ⟨_, cap, hv, h3, h4, fun hn => ⟨g, 0, rfl, (Array.getElem?_eq_some_iff.1 hg).1, fun j hj => ?_⟩⟩
    obtain ⟨c, F1, F2, F3, e1, e2, e3, _⟩ := elems_at h2 hj
    refine ⟨c, e2, fun i hi => ?_, hV _ _ _ e3⟩
    subst hv
    have hm : (j + 1) * size ≤ ds.length * size := Nat.mul_le_mul_right _ hj
    rw [Nat.add_mul] at hm
    rw [show 0 + j * size + i = j * size + i by omega, h1.cellAt _ (by omega)]
    rw [← List.getElem?_eq_getElem hi]
    conv => rhs; rw [← e1]
    rw [List.getElem?_take, if_pos (by omega), List.getElem?_drop]
theorem SV.toView {V : VE α} {A : Option Addr} {n c : Nat} (h : SV te size E w (.slice A n c) ds F) (hV : ∀ c d F, E w c d F → V w c d) : RV size V w A ds := by
  obtain ⟨A', c', e, _, _, r⟩ := h.view hV
  injection e with e
  rw [e]; exact r
end
def sI : SE Int := fun _ c n F => c = [.int .i64 n] ∧ F = []
def sR : SE (Int × Int) := fun _ c r F => c = [.int .i64 r.1, .int .i64 r.2] ∧ F = []
def sS : SE ByteArray := fun _ c s F => c = [.string s] ∧ F = []
def sB : SE Bool := fun _ c b F => c = [.bool b] ∧ F = []
def sSl {α : Type} (te size : Nat) (E : SE α) : SE (List α) := fun w c ds F => ∃ v, c = [v] ∧ SV te size E w v ds F
instance : SMono sI := ⟨fun h b hb => by rw [h.2] at hb; simp at hb, fun h _ => h⟩
instance : SMono sR := ⟨fun h b hb => by rw [h.2] at hb; simp at hb, fun h _ => h⟩
instance : SMono sS := ⟨fun h b hb => by rw [h.2] at hb; simp at hb, fun h _ => h⟩
instance : SMono sB := ⟨fun h b hb => by rw [h.2] at hb; simp at hb, fun h _ => h⟩
instance {α : Type} (te size : Nat) (E : SE α) [SMono E] : SMono (sSl te size E) := ⟨fun ⟨_, _, h⟩ => h.lt, fun ⟨v, e, h⟩ hk => ⟨v, e, h.keep hk⟩⟩
theorem sI_v {w : World} (c : List Value) (d : Int) (F : List Nat) (h : sI w c d F) : vI w c d := h.1
theorem sS_v {w : World} (c : List Value) (d : ByteArray) (F : List Nat) (h : sS w c d F) : vS w c d := h.1
theorem sSl_v {α : Type} {te size : Nat} {E : SE α} {V : VE α} {w : World} (hV : ∀ c d F, E w c d F → V w c d) (c : List Value) (d : List α) (F : List Nat) (h : sSl te size E w c d F) : vSl size V w c d := by
  obtain ⟨v, rfl, h⟩ := h
  obtain ⟨A, cap, rfl, hc, _, hv⟩ := h.view hV
  exact ⟨A, cap - d.length, by rw [Nat.add_sub_cancel' hc], hv⟩
class SPlain {α : Type} (E : SE α) : Prop where
  none : ∀ {w c d F}, E w c d F → F = []
instance : SPlain sI := ⟨fun h => h.2⟩
instance : SPlain sR := ⟨fun h => h.2⟩
instance : SPlain sS := ⟨fun h => h.2⟩
instance : SPlain sB := ⟨fun h => h.2⟩
theorem elems_plain {α : Type} {size : Nat} {E : SE α} [SPlain E] {w : World} : ∀ {vs : List Value} {ds : List α} {F : List Nat}, elems size E w vs ds F → F = []
  | _, [], _, ⟨_, h⟩ => h
  | _, _ :: _, _, ⟨_, _, _, _, _, _, h3, h4, h5⟩ => by rw [h5, SPlain.none h3, elems_plain h4]; rfl
theorem SV.plainF {α : Type} {te size : Nat} {E : SE α} [SPlain E] {w : World} {v : Value} {ds : List α} {F : List Nat} (h : SV te size E w v ds F) : F = fpOf v := by
  obtain ⟨vs, F2, _, h2, rfl⟩ := h
  rw [elems_plain h2]; simp
theorem fpOf_nodup (v : Value) : (fpOf v).Nodup := by unfold fpOf; split <;> simp
theorem SV.nodup {α : Type} {te size : Nat} {E : SE α} [SPlain E] {w : World} {v : Value} {ds : List α} {F : List Nat} (h : SV te size E w v ds F) : F.Nodup := by rw [h.plainF]; exact fpOf_nodup v
def SlT (P : Program) (t te size bytes : Nat) (z : Value) : Prop :=
  P.underlying t = some (.slice te) ∧ (P.info? te).map (fun i => (i.zero, i.size, i.bytes)) = some (some z, size, bytes) ∧ z.cells.size = size ∧ 0 < size
section
variable {P : Program} (w : World)
theorem run_appS {α : Type} {E : SE α} [SMono E] {t ty te size bytes : Nat} {z : Value} (hT : SlT P t te size bytes z) {v : Value} {ds : List α} {F : List Nat} (hS : SV te size E w v ds F) (hN : F.Nodup)
    {ad : Addr} {m c : Nat} {cs : List Value} (hnews : ∀ j u, cs[j]? = some u → w.cell? (ad.add j) = some u) (h1 : ∀ u ∈ cs, u.oneCell' = true)
    {es : List α} {G : List Nat} (hm : m = es.length) (hE : elems size E w cs es G) (hN2 : (F ++ G).Nodup) (hlen : ds.length + m ≤ 2000000000) (hby : bytes ≤ 60000) :
    ∃ v' w' F', (Builtin.append_ #[t, t] ty #[v, .slice (some ad) m c]).run P w = .ok v' w' ∧ SV te size E w' v' (ds ++ es) F' ∧ Chg F w w' ∧ F'.Nodup ∧ (∀ b ∈ F', b ∈ F ∨ b ∈ G ∨ w.heap.size ≤ b) := by
  obtain ⟨ht, hi, hzs, hsz⟩ := hT
  obtain ⟨i, hi, hz, hs1, hs2⟩ := info_parts hi
  obtain ⟨vs, F2, ho, hel, rfl⟩ := hS
  subst hm
  have hl := elems_length hE
  have hb : (ds.length + es.length) * bytes ≤ 140737488355328 := Nat.le_trans (Nat.mul_le_mul hlen hby) (by omega)
  obtain ⟨v', w', hr, h2, h3, _, h5⟩ := run_append_own_at (P := P) w 0 t ty te i z size bytes ht hi hz hs1 hs2 hzs hsz v ds.length vs ho ad es.length c cs hl hnews h1 (by simp only [maxLen]; omega) hb (Nat.zero_le _)
  have hc : Chg (fpOf v) w w' := Chg.ofGrown h3 fun k hk => mem_fpOf.2 hk
  have hd : ∀ b, b ∈ F2 ∨ b ∈ G → b ∉ fpOf v := by
    intro b hb hv
    rw [List.append_assoc, List.nodup_append] at hN2
    exact hN2.2.2 b hv b (by simpa using hb) rfl
  have hF2 : elems size E w' vs ds F2 := elems_keep hel fun b hb => hc.block b (elems_lt hel b hb) (hd b (.inl hb))
  have hG : elems size E w' cs es G := elems_keep hE fun b hb => hc.block b (elems_lt hE b hb) (hd b (.inr hb))
  refine ⟨v', w', fpOf v' ++ (F2 ++ G), hr, ⟨vs ++ cs, F2 ++ G, by simpa using h2, elems_append hF2 hG, rfl⟩, hc.mono (fun x hx => .inl (by simp [hx])), ?_, ?_⟩
  · rw [List.append_assoc, List.nodup_append] at hN2
    rw [List.nodup_append]
    refine ⟨fpOf_nodup v', hN2.2.1, fun a ha b hb => ?_⟩
    rintro rfl
    rcases h5 with h5 | h5
    · exact hN2.2.2 a (by rw [mem_fpOf] at ha ⊢; rw [← h5]; exact ha) a hb rfl
    · rw [mem_fpOf, h5] at ha
      have hlt : a < w.heap.size := by
        rcases List.mem_append.1 hb with h | h
        · exact elems_lt hel a h
        · exact elems_lt hE a h
      injection ha with ha
      omega
  · intro b hb
    rcases List.mem_append.1 hb with h | h
    · rw [mem_fpOf] at h
      rcases h5 with h5 | h5
      · exact .inl (by simp [mem_fpOf, ← h5, h])
      · rw [h5] at h
        injection h with h
        exact .inr (.inr (by omega))
    · rcases List.mem_append.1 h with h | h
      · exact .inl (by simp [h])
      · exact .inr (.inl h)
theorem wp_appS {o : Oper} {a : Act} {K : Act → World → Prop} {Q : Exit → Act → World → Prop} (s x : Operand) (t : TypeId)
    (ho : o.op = .call { callee := .builtin .append, args := #[s, x], argTypes := #[t, t] })
    {α : Type} {E : SE α} [SMono E] {te size bytes : Nat} {z : Value} (hT : SlT P t te size bytes z) {v : Value} {ds : List α} {F : List Nat} (hs : a.eval s = v) (hS : SV te size E w v ds F) (hN : F.Nodup)
    {ad : Addr} {m c : Nat} {cs : List Value} (hx : a.eval x = .slice (some ad) m c) (hnews : ∀ j u, cs[j]? = some u → w.cell? (ad.add j) = some u) (h1 : ∀ u ∈ cs, u.oneCell' = true)
    {es : List α} {G : List Nat} (hm : m = es.length) (hE : elems size E w cs es G) (hN2 : (F ++ G).Nodup) (hlen : ds.length + m ≤ 2000000000) (hby : bytes ≤ 60000)
    (h : ∀ v' w' F', SV te size E w' v' (ds ++ es) F' → Chg F w w' → F'.Nodup → (∀ b ∈ F', b ∈ F ∨ b ∈ G ∨ w.heap.size ≤ b) → K (a.put o.dst v') w') : o.wp P a w K Q := by
  obtain ⟨v', w', F', hr, h2, h3, h4, h5⟩ := run_appS (P := P) (ty := o.type) w hT hS hN (c := c) hnews h1 hm hE hN2 hlen hby
  unfold Oper.wp execOp
  simp only [ho, resolve, invoke, builtin, Sem.run_bind, Sem.run_pure, Result.andThen_ok, List.map_toArray, List.map_cons, List.map_nil, hs, hx, hr]
  exact h v' w' F' h2 h3 h4 h5
theorem wpList_appS {ops : Array Oper} {rest : List Oper} {o : Oper} {a : Act} {Q : Exit → Act → World → Prop} (hgd : o.guard = none) (s x : Operand) (t : TypeId)
    (ho : o.op = .call { callee := .builtin .append, args := #[s, x], argTypes := #[t, t] })
    {α : Type} {E : SE α} [SMono E] {te size bytes : Nat} {z : Value} (hT : SlT P t te size bytes z) {v : Value} {ds : List α} {F : List Nat} (hs : a.eval s = v) (hS : SV te size E w v ds F) (hN : F.Nodup)
    {ad : Addr} {m c : Nat} {cs : List Value} (hx : a.eval x = .slice (some ad) m c) (hnews : ∀ j u, cs[j]? = some u → w.cell? (ad.add j) = some u) (h1 : ∀ u ∈ cs, u.oneCell' = true)
    {es : List α} {G : List Nat} (hm : m = es.length) (hE : elems size E w cs es G) (hN2 : (F ++ G).Nodup) (hlen : ds.length + m ≤ 2000000000) (hby : bytes ≤ 60000)
    (h : ∀ v' w' F', SV te size E w' v' (ds ++ es) F' → Chg F w w' → F'.Nodup → (∀ b ∈ F', b ∈ F ∨ b ∈ G ∨ w.heap.size ≤ b) → wpList P ops Q rest (a.put o.dst v') w') : wpList P ops Q (o :: rest) a w :=
  wpList_plain hgd fun _ hK => wp_appS w s x t ho hT hs hS hN hx hnews h1 hm hE hN2 hlen hby fun v' w' F' h2 h3 h4 h5 => hK _ _ (h v' w' F' h2 h3 h4 h5)
theorem elems_replicate {α : Type} {size : Nat} {E : SE α} {c : List Value} {d : α} (hc : c.length = size) (hE : E w c d []) : ∀ n : Nat, elems size E w (List.replicate n c).flatten (List.replicate n d) []
  | 0 => ⟨rfl, rfl⟩
  | n + 1 => ⟨c, (List.replicate n c).flatten, [], [], by simp [List.replicate_succ], hc, hE, elems_replicate hc hE n, rfl⟩
theorem toList_madeCells (z : Array Value) (n : Nat) : (madeCells z (n * z.size)).toList = (List.replicate n z.toList).flatten := by
  induction n with
  | zero => simp [madeCells]
  | succ n ih =>
    rw [List.replicate_succ', List.flatten_append, ← ih]
    apply List.ext_getElem?
    intro i
    simp only [madeCells, List.getElem?_append, List.flatten_cons, List.flatten_nil, List.append_nil, Nat.add_mul, Nat.one_mul]
    by_cases h : i < n * z.size
    · simp [h, Nat.lt_of_lt_of_le h (Nat.le_add_right _ _)]
    · by_cases h2 : i < n * z.size + z.size
      · have h3 : i % z.size = i - n * z.size := by
          rw [show i = (i - n * z.size) + z.size * n by rw [Nat.mul_comm z.size n]; omega, Nat.add_mul_mod_self_left, Nat.mod_eq_of_lt (by omega)]
          rw [Nat.mul_comm z.size n]; omega
        have h4 : i - n * z.size < z.size := by omega
        simp [h, h2, h3, h4]
      · simp [h, h2]
        omega
theorem wpList_makeS {ops : Array Oper} {rest : List Oper} {o : Oper} {a : Act} {Q : Exit → Act → World → Prop} (hgd : o.guard = none) (l c : Operand) (t : TypeId) (hop : o.op = Op.makeSlice t l c)
    {α : Type} {E : SE α} {te size bytes : Nat} {z : Value} (hT : SlT P t te size bytes z) {n : Nat} (hl : a.eval l = .int .i64 (n : Int)) (hc : a.eval c = .int .i64 (n : Int)) {d : α} (hE : ∀ w, E w z.cells.toList d []) (hlen : n ≤ 2000000000) (hby : bytes ≤ 60000)
    (h : ∀ w', SV te size E w' (.slice (some ⟨w.heap.size, 0, none⟩) n n) (List.replicate n d) [w.heap.size] → (∃ y, w' = ext w y) → w.heap.size < w'.heap.size → wpList P ops Q rest (a.put o.dst (.slice (some ⟨w.heap.size, 0, none⟩) n n)) w') : wpList P ops Q (o :: rest) a w := by
  obtain ⟨ht, hi, hzs, hsz⟩ := hT
  obtain ⟨i, hi, hz, hs1, hs2⟩ := info_parts hi
  have hb : i.bytes * n ≤ 281474976710656 := by rw [hs2]; exact Nat.le_trans (Nat.mul_le_mul hby hlen) (by omega)
  refine wpList_make_full w hgd l c t hop 0 te i z size ht hi hz hs1 .i64 .i64 n n n hl hc rfl rfl hb (by simp only [maxLen]; omega) (Nat.zero_le _) ?_
  intro w' h1 h2
  have hx : Chg [] w w' := Chg.ofGrown h2 fun k hk => by cases hk
  refine h w' ⟨_, [], by simpa using h1, ?_, rfl⟩ (hx.isExt (refl_ext w) (by simp)) (h1.lt _ rfl).2
  rw [← hzs, toList_madeCells]
  exact elems_replicate w' (by simp [hzs]) (hE w') n
end
section
variable {w : World} {te size : Nat}
theorem SV.cell {α : Type} {E : SE α} {ds : List α} {g cap n : Nat} {F : List Nat} (h : SV te size E w (.slice (some ⟨g, 0, none⟩) n cap) ds F) (hn : ds.length = n) {j : Nat} (hj : j < n * size) : (∃ u, w.cell? ⟨g, j, none⟩ = some u) ∧ w.frozen? ⟨g, j, none⟩ = false ∧ g < w.heap.size := by
  subst hn
  obtain ⟨vs, F2, h1, h2, _⟩ := h
  refine ⟨?_, h1.frozenAt j, (h1.lt g rfl).2⟩
  rw [h1.cellAt j hj]
  have := h1.1
  exact ⟨_, List.getElem?_eq_getElem (by omega)⟩
theorem elems_set {α : Type} {E : SE α} [SPlain E] {c : List Value} {d : α} (hc : c.length = size) (hE : E w c d []) : ∀ {vs : List Value} {ds : List α} {F : List Nat} {k : Nat}, elems size E w vs ds F → k < ds.length → elems size E w (vs.take (k * size) ++ c ++ vs.drop (k * size + size)) (ds.set k d) F
  | _, d' :: ds, _, 0, ⟨c', vs', F1, F2, h1, h2, h3, h4, h5⟩, _ => by
    subst h1
    refine ⟨c, vs', [], F2, by simp [← h2], hc, hE, h4, ?_⟩
    rw [h5, SPlain.none h3]
  | _, d' :: ds, _, k + 1, ⟨c', vs', F1, F2, h1, h2, h3, h4, h5⟩, hk => by
    subst h1
    refine ⟨c', _, F1, F2, ?_, h2, h3, elems_set hc hE (k := k) h4 (by simpa using hk), h5⟩
    have e : (k + 1) * size = c'.length + k * size := by rw [h2, Nat.add_mul]; omega
    rw [e, Nat.add_assoc, List.take_length_add_append, List.drop_length_add_append]
    simp
theorem SV.set1 {α : Type} {E : SE α} [SPlain E] [SMono E] {ds : List α} {g cap n : Nat} {F : List Nat} (h : SV te 1 E w (.slice (some ⟨g, 0, none⟩) n cap) ds F) (hn : ds.length = n) {k : Nat} (hk : k < n) {u : Value} {d : α} (hE : ∀ w, E w [u] d []) :
    SV te 1 E (w.setCell ⟨g, k, none⟩ u) (.slice (some ⟨g, 0, none⟩) n cap) (ds.set k d) F ∧ Chg [g] w (w.setCell ⟨g, k, none⟩ u) := by
  subst hn
  have hF := h.plainF
  obtain ⟨vs, F2, h1, h2, _⟩ := h
  obtain ⟨h3, h4⟩ := h1.stored k u
  have h0 := elems_plain h2
  subst h0
  refine ⟨⟨vs.set k u, [], by simpa using h3, ?_, by simpa using hF⟩, Chg.ofGrown h4 fun k hk => by simpa using hk.symm⟩
  have hl := elems_length h2
  have hvk : k < vs.length := by omega
  have h5 := elems_set (size := 1) (w := w) (c := [u]) rfl (hE w) h2 hk
  have e : vs.take (k * 1) ++ [u] ++ vs.drop (k * 1 + 1) = vs.set k u := by
    rw [Nat.mul_one, List.set_eq_take_append_cons_drop, if_pos hvk]
    simp
  rw [e] at h5
  exact elems_keep h5 (by simp)
end
theorem SV.set2 {α : Type} {te : Nat} {w : World} {E : SE α} [SPlain E] [SMono E] {ds : List α} {g cap n : Nat} {F : List Nat} (h : SV te 2 E w (.slice (some ⟨g, 0, none⟩) n cap) ds F) (hn : ds.length = n) {k : Nat} (hk : k < n) {u v : Value} {d : α} (hE : ∀ w, E w [u, v] d []) :
    SV te 2 E ((w.setCell ⟨g, k * 2, none⟩ u).setCell ⟨g, k * 2 + 1, none⟩ v) (.slice (some ⟨g, 0, none⟩) n cap) (ds.set k d) F ∧ Chg [g] w ((w.setCell ⟨g, k * 2, none⟩ u).setCell ⟨g, k * 2 + 1, none⟩ v) := by
  subst hn
  have hF := h.plainF
  obtain ⟨vs, F2, h1, h2, _⟩ := h
  obtain ⟨h3, h4⟩ := h1.stored (k * 2) u
  obtain ⟨h3', h4'⟩ := h3.stored (k * 2 + 1) v
  have h0 := elems_plain h2
  subst h0
  refine ⟨⟨(vs.set (k * 2) u).set (k * 2 + 1) v, [], by simpa using h3', ?_, by simpa using hF⟩, (Chg.ofGrown h4 fun k hk => by simpa using hk.symm).trans (Chg.ofGrown (F := [g]) h4' fun k hk => by simpa using hk.symm) (fun x hx => .inl hx)⟩
  have hl := elems_length h2
  have hvk : k * 2 + 1 < vs.length := by omega
  have h5 := elems_set (size := 2) (w := w) (c := [u, v]) rfl (hE w) h2 hk
  have e : vs.take (k * 2) ++ [u, v] ++ vs.drop (k * 2 + 2) = (vs.set (k * 2) u).set (k * 2 + 1) v := by
    apply List.ext_getElem
    · simp; omega
    · intro i h1 h2
      simp only [List.getElem_append, List.getElem_set, List.length_append, List.length_take, List.length_cons, List.length_nil]
      by_cases c1 : i < k * 2
      · have : i < min (k * 2) vs.length := by omega
        simp [this, show i < min (k * 2) vs.length + (0 + 1 + 1) by omega, show ¬ k * 2 + 1 = i by omega, show ¬ k * 2 = i by omega]
      · by_cases c2 : i = k * 2
        · subst c2
          simp [show ¬ k * 2 < min (k * 2) vs.length by omega, show k * 2 < min (k * 2) vs.length + (0 + 1 + 1) by omega, show k * 2 - min (k * 2) vs.length = 0 by omega]
        · by_cases c3 : i = k * 2 + 1
          · subst c3
            simp [show ¬ k * 2 + 1 < min (k * 2) vs.length by omega, show k * 2 + 1 < min (k * 2) vs.length + (0 + 1 + 1) by omega, show k * 2 + 1 - min (k * 2) vs.length = 1 by omega]
          · simp [show ¬ i < min (k * 2) vs.length + (0 + 1 + 1) by omega, show ¬ k * 2 + 1 = i by omega, show ¬ k * 2 = i by omega]
            congr 1
            omega
  rw [e] at h5
  exact elems_keep h5 (by simp)
theorem SV.empty {α : Type} {te size : Nat} {E : SE α} (w : World) : SV te size E (w.alloc (.cells #[] te)) (.slice (some ⟨w.heap.size, 0, none⟩) 0 0) ([] : List α) [w.heap.size] :=
  ⟨[], [], ⟨by simp, .inr ⟨w.heap.size, 0, #[], rfl, Nat.zero_le _, heap_alloc_new w _, Nat.le_refl _, by simp [maxLen], by simp, by simp⟩⟩, ⟨rfl, rfl⟩, rfl⟩
theorem newer {w0 w : World} {F F' : List Nat} (hF : ∀ b ∈ F, w0.heap.size ≤ b) (hw : w0.heap.size ≤ w.heap.size) (h : ∀ b ∈ F', b ∈ F ∨ w.heap.size ≤ b) : ∀ b ∈ F', w0.heap.size ≤ b := fun b hb => by
  rcases h b hb with h1 | h1
  · exact hF b h1
  · omega
theorem size_of_ext {w0 w : World} (h : ∃ y, w = ext w0 y) : w0.heap.size ≤ w.heap.size := by
  obtain ⟨y, rfl⟩ := h
  exact size_ext
theorem x'a (F : List Nat) (w : World) : Chg F w w := Chg.refl F w
theorem x'b (n : Nat) : n ≤ n := Nat.le_refl n
theorem x'c {F : List Nat} {w w' : World} (h : ∃ y, w' = ext w y) : Chg F w w' := Chg.ofExt h
theorem x'd {F : List Nat} {a b c : World} (h : Chg F a b) (k : ∃ y, c = ext b y) : Chg F a c := Chg.trans0 h k
theorem x'e {F : List Nat} {a w : World} (h : Chg F a w) (y : World) : Chg F a (ext w y) := Chg.extS h y
theorem x'f {F : List Nat} {a w : World} (h : Chg F a w) (o : Obj) : Chg F a (w.alloc o) := Chg.alloc h o
theorem x'g {F : List Nat} {a w : World} (h : Chg F a w) : Chg F a w.drew := Chg.drew h
theorem x'h {F : List Nat} {a w : World} (h : Chg F a w) {b o : Nat} {s : Option Nat} (hp : a.heap.size ≤ b) (u : Value) : Chg F a (w.setCell ⟨b, o, s⟩ u) := Chg.setCellE h hp u
theorem x'i {a n : Nat} (h : a ≤ n) (k : Nat) : a ≤ n + k := le_addk h k
theorem x'j {b : Nat} {w x : World} (h : b ≤ w.heap.size) : b ≤ (ext w x).heap.size := le_ext h
theorem x'k {a : Nat} {w : World} (h : a ≤ w.heap.size) (o : Obj) : a ≤ (w.alloc o).heap.size := le_alloc h o
theorem x'l {a : Nat} {w : World} (h : a ≤ w.heap.size) (p : Addr) (u : Value) : a ≤ (w.setCell p u).heap.size := le_setC h p u
theorem x'm {a : Nat} {w : World} (h : a ≤ w.heap.size) : a ≤ w.drew.heap.size := le_drew h
theorem x'n {a b : Nat} (h : a < b) : a ≤ b := Nat.le_of_lt h
theorem x'z {w w' : World} (h : Chg [] w w') : ∃ y, w' = ext w y := Chg.isExt (F := []) h (refl_ext _) (by simp)
end Go.Proofs.Ytgnmpjjlclbieaa
namespace Go.Proofs.Ytgnmpjjlclbieaa
open Go.ChangeShapes Go.WideShapes Go.ChangeAt Go.RowKit Go.Deep
def I64 (n : Int) : Prop := -9223372036854775808 ≤ n ∧ n ≤ 9223372036854775807
def OpenE (P : Program) (te size : Nat) {α : Type} (E : VE α) (Q : α → Prop) : Prop :=
  P.cellsOf te = size ∧ ∀ (H : Type) (enc : TypeId × Value → H) (w : World) (base : Nat) (spare : Nat → Bool) (held : Bool) (n : Nat) (c : List Value) (y : DataW H × List MemPlace),
    DataW.trod enc P w base spare held n te c = some y → ∃ d, E w c d ∧ Q d
def vP {α β : Type} (s0 : Nat) (E0 : VE α) (E1 : VE β) : VE (α × β) := fun w c d => ∃ c0 c1, c = c0 ++ c1 ∧ c0.length = s0 ∧ E0 w c0 d.1 ∧ E1 w c1 d.2
def sP {α β : Type} (s0 : Nat) (E0 : SE α) (E1 : SE β) : SE (α × β) := fun w c d F => ∃ c0 c1 F0 F1, c = c0 ++ c1 ∧ c0.length = s0 ∧ E0 w c0 d.1 F0 ∧ E1 w c1 d.2 F1 ∧ F = F0 ++ F1
instance {α β : Type} (s0 : Nat) (E0 : VE α) (E1 : VE β) [VMono E0] [VMono E1] : VMono (vP s0 E0 E1) := ⟨fun ⟨c0, c1, h1, h2, h3, h4⟩ => ⟨c0, c1, h1, h2, VMono.ext h3, VMono.ext h4⟩⟩
instance {α β : Type} (s0 : Nat) (E0 : SE α) (E1 : SE β) [SMono E0] [SMono E1] : SMono (sP s0 E0 E1) :=
  ⟨fun ⟨c0, c1, F0, F1, _, _, h3, h4, h5⟩ b hb => by
    subst h5
    rcases List.mem_append.1 hb with h | h
    · exact SMono.lt h3 b h
    · exact SMono.lt h4 b h,
   fun ⟨c0, c1, F0, F1, h1, h2, h3, h4, h5⟩ hk => by
    subst h5
    exact ⟨c0, c1, F0, F1, h1, h2, SMono.keep h3 fun b hb => hk b (by simp [hb]), SMono.keep h4 fun b hb => hk b (by simp [hb]), rfl⟩⟩
theorem sP_v {α β : Type} {s0 : Nat} {E0 : SE α} {E1 : SE β} {V0 : VE α} {V1 : VE β} {w : World} (h0 : ∀ c d F, E0 w c d F → V0 w c d) (h1 : ∀ c d F, E1 w c d F → V1 w c d) (c : List Value) (d : α × β) (F : List Nat) (h : sP s0 E0 E1 w c d F) : vP s0 V0 V1 w c d := by
  obtain ⟨c0, c1, F0, F1, e1, e2, e3, e4, _⟩ := h
  exact ⟨c0, c1, e1, e2, h0 _ _ _ e3, h1 _ _ _ e4⟩
section
variable {P : Program}
theorem openInt {t : Nat} (ht : P.underlying t = some (.int .i64)) (hc : P.cellsOf t = 1) : OpenE P t 1 vI I64 := ⟨hc, fun H enc w base spare held n c y h => by
  obtain ⟨m, rfl, _, hw⟩ := DataW.trod_int ht h
  refine ⟨m, rfl, ?_⟩
  simp [Lit.wf, IntKind.min, IntKind.max, IntKind.signed, IntKind.bits] at hw
  exact ⟨by omega, by omega⟩⟩
theorem openStr {t : Nat} (ht : P.underlying t = some .string) (hc : P.cellsOf t = 1) : OpenE P t 1 vS (fun s => s.size ≤ maxLen) := ⟨hc, fun H enc w base spare held n c y h => by
  obtain ⟨s, rfl, _, hw⟩ := DataW.trod_string ht h
  exact ⟨s, rfl, hw⟩⟩
theorem addr_lit {a : Addr} {j : Nat} (hs : a.spot = none) : a.add j = ⟨a.block, a.off + j, none⟩ := by
  unfold Addr.add
  split
  · rename_i h; subst h; cases a; simp_all
  · rfl
theorem spot_of_cell {w : World} {a : Addr} {u : Value} (h : w.cell? a = some u) : a.spot = none := by
  unfold World.cell? at h
  split at h
  · cases hs : a.spot with
    | none => rfl
    | some _ => simp [hs] at h
  · simp at h
theorem openSl {α : Type} {t te size : Nat} {E : VE α} {Q : α → Prop} (ht : P.underlying t = some (.slice te)) (hc : P.cellsOf t = 1) (hz : 0 < size) (hO : OpenE P te size E Q) : OpenE P t 1 (vSl size E) (fun l => l.length ≤ maxLen ∧ ∀ x ∈ l, Q x) := ⟨hc, fun H enc w base spare held n c y h => by
  obtain ⟨hce, hO⟩ := hO
  rcases open_slice ht h with ⟨rfl, _⟩ | ⟨a, len, cap, m, n', D, Pl, rfl, hb, hl, hm, hmm, _, hx⟩
  · exact ⟨[], ⟨none, 0, rfl, RV.nil⟩, by simp [maxLen], by simp⟩
  · have hlm : len ≤ m := by rw [hmm]; split <;> omega
    have each : ∀ i, i < len → ∃ d, (∃ c : List Value, c.length = size ∧ (∀ j (hj : j < c.length), w.cell? ((a.add (i * size)).add j) = some c[j]) ∧ E w c d) ∧ Q d := fun i hi => by
      obtain ⟨cs', h1, h2⟩ := hx i (by omega)
      rw [hce] at h1
      obtain ⟨_, hcl, hat⟩ := World.cells?_some h1
      obtain ⟨d, hd, hq⟩ := hO _ _ _ _ _ _ _ _ _ h2
      exact ⟨d, ⟨cs', hcl, fun j hj => by rw [hat j (by omega)]; exact List.getElem?_eq_getElem hj, hd⟩, hq⟩
    obtain ⟨f, hf⟩ := choose_lt (α := Option α) (n := len) (p := fun i o => ∃ d, o = some d ∧ (∃ c : List Value, c.length = size ∧ (∀ j (hj : j < c.length), w.cell? ((a.add (i * size)).add j) = some c[j]) ∧ E w c d) ∧ Q d) (fun i hi => by
      obtain ⟨d, h1, h2⟩ := each i hi
      exact ⟨some d, d, rfl, h1, h2⟩)
    have hl2 : ∃ ds : List α, ds.length = len ∧ ∀ i (hi : i < ds.length), f i = some ds[i] := by
      have : ∀ k, k ≤ len → ∃ ds : List α, ds.length = k ∧ ∀ i (hi : i < ds.length), f i = some ds[i] := by
        intro k
        induction k with
        | zero => exact fun _ => ⟨[], rfl, fun i hi => by simp at hi⟩
        | succ k ih =>
          intro hk
          obtain ⟨ds, h1, h2⟩ := ih (by omega)
          obtain ⟨d, hd, _⟩ := hf k (by omega)
          refine ⟨ds ++ [d], by simp [h1], fun i hi => ?_⟩
          by_cases hik : i < ds.length
          · rw [List.getElem_append_left hik]; exact h2 i hik
          · have : i = k := by simp at hi; omega
            subst this
            rw [List.getElem_append_right (by omega)]
            simpa using hd
      exact this len (Nat.le_refl _)
    obtain ⟨ds, h1, h2⟩ := hl2
    have hd : ∀ i (hi : i < ds.length), (∃ c : List Value, c.length = size ∧ (∀ j (hj : j < c.length), w.cell? ((a.add (i * size)).add j) = some c[j]) ∧ E w c ds[i]) ∧ Q ds[i] := fun i hi => by
      obtain ⟨d, e1, e2⟩ := hf i (by omega)
      rw [h2 i hi] at e1
      injection e1 with e1
      rw [e1]; exact e2
    refine ⟨ds, ⟨some a, cap - len, by rw [h1, Nat.add_sub_cancel' (by omega)], fun hn => ?_⟩, by omega, fun x hx => ?_⟩
    · obtain ⟨⟨c, hc1, hc2, _⟩, _⟩ := hd 0 (List.length_pos_iff.2 hn)
      have hcell := hc2 0 (by omega)
      have hsp : a.spot = none := by
        have := spot_of_cell hcell
        simpa [Addr.add] using this
      have hlt := World.block_lt_of_cell? w _ hcell
      refine ⟨a.block, a.off, by cases a; simp_all, by simpa [Addr.add] using hlt, fun j hj => ?_⟩
      obtain ⟨⟨c, hc1, hc2, hc3⟩, _⟩ := hd j hj
      refine ⟨c, hc1, fun i hi => ?_, hc3⟩
      have := hc2 i hi
      rw [addr_lit (a := a) hsp, addr_lit rfl] at this
      exact this
    · obtain ⟨i, hi, rfl⟩ := List.getElem_of_mem hx
      exact (hd i hi).2⟩
theorem openStruct1 {α : Type} {t s0 : Nat} {f0 : Field} {E0 : VE α} {Q0 : α → Prop} (hs : P.underlying t = some (.struct #[f0])) (h0 : f0.offset = 0) (O0 : OpenE P f0.type s0 E0 Q0) (hc : P.cellsOf t = s0) : OpenE P t s0 E0 Q0 := ⟨hc, fun H enc w base spare held n c y h => by
  obtain ⟨xs, n', _, _, hcl, hxl, hf⟩ := DataW.trod_struct hs h
  have e0 := hf 0 f0 rfl
  rw [h0, List.drop_zero, O0.1, List.take_of_length_le (by omega)] at e0
  have hx : 0 < xs.length := by rw [hxl]; simp
  rw [List.getElem?_eq_getElem hx] at e0
  exact O0.2 _ _ _ _ _ _ _ _ _ e0⟩
theorem openStruct2 {α β : Type} {t s0 s1 : Nat} {f0 f1 : Field} {E0 : VE α} {Q0 : α → Prop} {E1 : VE β} {Q1 : β → Prop} (hs : P.underlying t = some (.struct #[f0, f1])) (h0 : f0.offset = 0) (h1 : f1.offset = s0) (O0 : OpenE P f0.type s0 E0 Q0) (O1 : OpenE P f1.type s1 E1 Q1) (hc : P.cellsOf t = s0 + s1) :
    OpenE P t (s0 + s1) (vP s0 E0 E1) (fun d => Q0 d.1 ∧ Q1 d.2) := ⟨hc, fun H enc w base spare held n c y h => by
  obtain ⟨xs, n', _, _, hcl, hxl, hf⟩ := DataW.trod_struct hs h
  have e0 := hf 0 f0 rfl
  have e1 := hf 1 f1 rfl
  rw [h0, List.drop_zero, O0.1] at e0
  rw [h1, O1.1, List.take_of_length_le (by simp; omega)] at e1
  have hx : xs.length = 2 := by rw [hxl]; rfl
  rw [List.getElem?_eq_getElem (by omega)] at e0 e1
  obtain ⟨d0, a0, q0⟩ := O0.2 _ _ _ _ _ _ _ _ _ e0
  obtain ⟨d1, a1, q1⟩ := O1.2 _ _ _ _ _ _ _ _ _ e1
  exact ⟨(d0, d1), ⟨_, _, (List.take_append_drop s0 c).symm, by simp; omega, a0, a1⟩, q0, q1⟩⟩
theorem openArg {α : Type} {t size : Nat} {E : VE α} {Q : α → Prop} (hO : OpenE P t size E Q) {H : Type} {enc : TypeId × Value → H} {w : World} {base : Nat} {spare : Nat → Bool} {held : Bool} {v : Value} {d : DataW H} {p : List MemPlace} (h : DataW.Trod enc P w base spare held t v d p) : ∃ x, E w v.cells.toList x ∧ Q x := by
  obtain ⟨n, hn⟩ := h
  exact hO.2 _ _ _ _ _ _ _ _ _ hn
end
end Go.Proofs.Ytgnmpjjlclbieaa
namespace Go.Proofs.Ytgnmpjjlclbieaa
open Go.ChangeShapes Go.WideShapes Go.ChangeAt Go.RowKit
theorem oInt : OpenE Try.prog 3 1 vI I64 := openInt Try.underlying3 (by kernel_rfl)
theorem oStr : OpenE Try.prog 9 1 vS (fun s => s.size ≤ maxLen) := openStr Try.underlying9 (by kernel_rfl)
abbrev QInts (l : List Int) : Prop := l.length ≤ maxLen ∧ ∀ x ∈ l, I64 x
theorem oInts : OpenE Try.prog 59 1 (vSl 1 vI) QInts := openSl Try.underlying59 (by kernel_rfl) (by omega) oInt
theorem agg1 {cs : Array Value} {v : Value} (h : (Value.agg cs).cells.toList = [v]) : cs = #[v] := by
  cases cs; simp [Value.cells] at h; rw [h]
theorem agg2 {cs : Array Value} {v u : Value} (h : (Value.agg cs).cells.toList = [v, u]) : cs = #[v, u] := by
  cases cs; simp [Value.cells] at h; rw [h]
end Go.Proofs.Ytgnmpjjlclbieaa
namespace Go.Proofs.Ytgnmpjjlclbieaa
open Go.ChangeShapes Go.WideShapes Go.ChangeAt Go.RowKit
theorem oIntss : OpenE Try.prog 25 1 (vSl 1 (vSl 1 vI)) (fun d => d.length ≤ maxLen ∧ ∀ x ∈ d, x.length ≤ maxLen) := ⟨(openSl Try.underlying25 (by kernel_rfl) (by omega) oInts).1, fun H enc w base spare held n c y h => by
  obtain ⟨d, h1, h2, h3⟩ := (openSl Try.underlying25 (by kernel_rfl) (by omega) oInts).2 H enc w base spare held n c y h
  exact ⟨d, h1, h2, fun x hx => (h3 x hx).1⟩⟩
theorem oRel : OpenE Try.prog 27 (1 + 1) (vP 1 vI (vSl 1 (vSl 1 vI))) (fun d => I64 d.1 ∧ d.2.length ≤ maxLen ∧ ∀ x ∈ d.2, x.length ≤ maxLen) := openStruct2 Try.underlying27 rfl rfl oInt oIntss (by kernel_rfl)
end Go.Proofs.Ytgnmpjjlclbieaa
namespace Go.Proofs.Ytgnmpjjlclbieaa
open Go.RowKit
section
variable {P : Program} {w : World}
theorem wpList_app1 {ops : Array Oper} {rest : List Oper} {o : Oper} {a : Act} {Q : Exit → Act → World → Prop} (hgd : o.guard = none) (s x : Operand) (t : TypeId)
    (ho : o.op = .call { callee := .builtin .append, args := #[s, x], argTypes := #[t, t] })
    {α : Type} {E : SE α} [SMono E] [SPlain E] {te size bytes : Nat} {z : Value} (hT : SlT P t te size bytes z) {v : Value} {ds : List α} {F : List Nat} {w0 : World} {cs : Array Value} {d : α} {c b0 : Nat} (hs : a.eval s = v) (hx : a.eval x = .slice (some ⟨b0, 0, none⟩) 1 c) (hw : w = w0.alloc (.cells cs te)) (hb0 : b0 = w0.heap.size)
    (hE : ∀ w, E w cs.toList d []) (hc : cs.size = size) (h1 : ∀ u ∈ cs.toList, u.oneCell' = true)
    (hS : SV te size E w0 v ds F) (hlen : ds.length + 1 ≤ 2000000000) (hby : bytes ≤ 60000)
    (h : ∀ v' w' F', SV te size E w' v' (ds ++ [d]) F' → Chg F w0 w' → (∀ b ∈ F', b ∈ F ∨ w0.heap.size ≤ b) → wpList P ops Q rest (a.put o.dst v') w') : wpList P ops Q (o :: rest) a w := by
  subst hw hb0
  have hS' : SV te size E (w0.alloc (.cells cs te)) v ds F := hS.toExt (alloc_ext w0 _)
  have hN := BoxAt.new w0 cs te
  refine wpList_appS _ hgd s x t ho hT hs hS' hS'.nodup hx (cs := cs.toList) (es := [d]) (G := []) (fun j u hj => ?_) h1 rfl (elems_one (by simpa using hc) (hE _)) (by simpa using hS'.nodup) hlen hby ?_
  · have e : (⟨w0.heap.size, 0, none⟩ : Addr).add j = ⟨w0.heap.size, j, none⟩ := by
      unfold Addr.add
      split
      · rename_i h; subst h; rfl
      · simp
    rw [e, hN.2.1 j]
    simpa using hj
  · intro v' w' F' h2 h3 _ h5
    refine h v' w' F' h2 (((Chg.refl F w0).alloc _).trans h3 (fun x hx => .inl hx)) fun b hb => ?_
    rcases h5 b hb with h | h | h
    · exact .inl h
    · simp at h
    · exact .inr (by simp at h; omega)
theorem wpList_appN {ops : Array Oper} {rest : List Oper} {o : Oper} {a : Act} {Q : Exit → Act → World → Prop} (hgd : o.guard = none) (s x : Operand) (t : TypeId)
    (ho : o.op = .call { callee := .builtin .append, args := #[s, x], argTypes := #[t, t] })
    {α : Type} {E : SE α} [SMono E] {te size bytes : Nat} {z : Value} (hT : SlT P t te size bytes z) {v : Value} {ds : List α} {F G : List Nat} {w0 : World} {cs : Array Value} {d : α} {c b0 : Nat} (hs : a.eval s = v) (hx : a.eval x = .slice (some ⟨b0, 0, none⟩) 1 c) (hw : w = w0.alloc (.cells cs te)) (hb0 : b0 = w0.heap.size)
    (hE : E w0 cs.toList d G) (hc : cs.size = size) (h1 : ∀ u ∈ cs.toList, u.oneCell' = true)
    (hS : SV te size E w0 v ds F) (hN : (F ++ G).Nodup) (hlen : ds.length + 1 ≤ 2000000000) (hby : bytes ≤ 60000)
    (h : ∀ v' w' F', SV te size E w' v' (ds ++ [d]) F' → Chg F w0 w' → F'.Nodup → (∀ b ∈ F', b ∈ F ∨ b ∈ G ∨ w0.heap.size ≤ b) → wpList P ops Q rest (a.put o.dst v') w') : wpList P ops Q (o :: rest) a w := by
  subst hw hb0
  have hx1 := alloc_ext w0 (.cells cs te)
  have hS' : SV te size E (w0.alloc (.cells cs te)) v ds F := hS.toExt hx1
  have hE' : E (w0.alloc (.cells cs te)) cs.toList d G := SMono.keep hE fun b hb => by
    obtain ⟨y, e⟩ := hx1
    rw [e]; exact (below_ext w0 y).block b (SMono.lt hE b hb)
  have hB := BoxAt.new w0 cs te
  refine wpList_appS _ hgd s x t ho hT hs hS' (List.nodup_append.1 hN).1 hx (cs := cs.toList) (es := [d]) (G := G) (fun j u hj => ?_) h1 rfl (elems_one (by simpa using hc) hE') hN hlen hby ?_
  · have e : (⟨w0.heap.size, 0, none⟩ : Addr).add j = ⟨w0.heap.size, j, none⟩ := by
      unfold Addr.add
      split
      · rename_i h; subst h; rfl
      · simp
    rw [e, hB.2.1 j]
    simpa using hj
  · intro v' w' F' h2 h3 h4 h5
    refine h v' w' F' h2 (((Chg.refl F w0).alloc _).trans h3 (fun x hx => .inl hx)) h4 fun b hb => ?_
    rcases h5 b hb with h | h | h
    · exact .inl h
    · exact .inr (.inl h)
    · exact .inr (.inr (by simp at h; omega))
end
theorem BoxAt.set2 {w : World} {B : Nat} {u v u' v' : Value} (h : BoxAt w B #[u, v]) : BoxAt ((w.setCell ⟨B, 0, none⟩ u').setCell ⟨B, 1, none⟩ v') B #[u', v'] := by
  obtain ⟨h1, h2, h3⟩ := h
  have e0 := h2 0
  have e1 := h2 1
  simp at e0 e1
  refine ⟨by simpa using h1, fun j => ?_, fun j => ?_⟩
  · rcases j with _ | _ | j
    · go_simp
    · go_simp
    · have := h2 (j + 2)
      go_simp
  · go_simp
theorem BoxAt.set2' {w : World} {B B' : Nat} {cs : Array Value} {u' v' : Value} (h : BoxAt w B cs) (hne : B ≠ B') : BoxAt ((w.setCell ⟨B', 0, none⟩ u').setCell ⟨B', 1, none⟩ v') B cs :=
  h.chg (((Chg.refl [B'] w).setCell (.inl (by simp)) _).setCell (.inl (by simp)) _) (by simpa using hne)
theorem BoxAt.setO {w : World} {B B' k : Nat} {cs : Array Value} {u : Value} (h : BoxAt w B cs) (hne : B ≠ B') : BoxAt (w.setCell ⟨B', k, none⟩ u) B cs :=
  h.chg ((Chg.refl [B'] w).setCell (.inl (by simp)) _) (by simpa using hne)
theorem BoxAt.setP0 {w : World} {B : Nat} {u v u' : Value} (h : BoxAt w B #[u, v]) : BoxAt (w.setCell ⟨B, 0, none⟩ u') B #[u', v] := by
  obtain ⟨h1, h2, h3⟩ := h
  have e0 := h2 0
  have e1 := h2 1
  simp at e0 e1
  refine ⟨by simpa using h1, fun j => ?_, fun j => ?_⟩
  · rcases j with _ | _ | j
    · go_simp
    · go_simp
    · have := h2 (j + 2)
      go_simp
  · go_simp
theorem BoxAt.setP1 {w : World} {B : Nat} {u v v' : Value} (h : BoxAt w B #[u, v]) : BoxAt (w.setCell ⟨B, 1, none⟩ v') B #[u, v'] := by
  obtain ⟨h1, h2, h3⟩ := h
  have e0 := h2 0
  have e1 := h2 1
  simp at e0 e1
  refine ⟨by simpa using h1, fun j => ?_, fun j => ?_⟩
  · rcases j with _ | _ | j
    · go_simp
    · go_simp
    · have := h2 (j + 2)
      go_simp
  · go_simp
end Go.Proofs.Ytgnmpjjlclbieaa
namespace Go.Proofs.Ytgnmpjjlclbieaa
open Go.RowKit
section
variable {α : Type} {te size : Nat} {E : SE α} {w : World} {v : Value} {ds : List α} {F : List Nat}
theorem elems_upd {c' : List Value} {d' : α} {Fk : List Nat} {w' : World} : ∀ {vs : List Value} {ds : List α} {F : List Nat} {k : Nat} (_ : elems size E w vs ds F) (_ : k < ds.length),
    ∃ c vs1 vs2 F1 F2 Fk, vs = vs1 ++ (c ++ vs2) ∧ vs1.length = k * size ∧ c.length = size ∧ F = F1 ++ (Fk ++ F2) ∧ (∀ (h : k < ds.length), E w c ds[k] Fk) ∧ elems size E w vs1 (ds.take k) F1 ∧ elems size E w vs2 (ds.drop (k + 1)) F2
  | _, d :: ds, _, 0, ⟨c, vs', F1, F2, h1, h2, h3, h4, h5⟩, _ => ⟨c, [], vs', [], F2, F1, by simpa using h1, by simp, h2, by simpa using h5, fun _ => h3, ⟨rfl, rfl⟩, by simpa using h4⟩
  | _, d :: ds, _, k + 1, ⟨c0, vs', F0, F9, h1, h2, h3, h4, h5⟩, hk => by
    obtain ⟨c, vs1, vs2, F1, F2, Fk, e1, e2, e3, e4, e5, e6, e7⟩ := elems_upd (c' := c') (d' := d') (Fk := Fk) (w' := w') h4 (k := k) (by simpa using hk)
    refine ⟨c, c0 ++ vs1, vs2, F0 ++ F1, F2, Fk, by rw [h1, e1]; simp, by rw [List.length_append, h2, e2, Nat.add_mul]; omega, e3, by rw [h5, e4]; simp, fun h => by simpa using e5 (by simpa using h), ?_, by simpa using e7⟩
    exact ⟨c0, vs1, F0, F1, rfl, h2, h3, e6, rfl⟩
theorem elems_join {vs1 c vs2 : List Value} {ds1 ds2 : List α} {d : α} {F1 Fk F2 : List Nat} (h1 : elems size E w vs1 ds1 F1) (hc : c.length = size) (hE : E w c d Fk) (h2 : elems size E w vs2 ds2 F2) :
    elems size E w (vs1 ++ (c ++ vs2)) (ds1 ++ d :: ds2) (F1 ++ (Fk ++ F2)) := elems_append h1 ⟨c, vs2, Fk, F2, rfl, hc, hE, h2, rfl⟩
theorem set_split {ds : List α} {k : Nat} (h : k < ds.length) (d : α) : ds.set k d = ds.take k ++ d :: ds.drop (k + 1) := by
  rw [List.set_eq_take_append_cons_drop, if_pos h]
theorem SV.at [SMono E] (h : SV te size E w v ds F) (hN : F.Nodup) {k : Nat} (hk : k < ds.length) : ∃ g cap c Fk, v = .slice (some ⟨g, 0, none⟩) ds.length cap ∧ g < w.heap.size ∧ g ∈ F ∧ g ∉ Fk ∧ (∀ b ∈ Fk, b ∈ F) ∧ Fk.Nodup ∧ c.length = size ∧
    (∀ i (hi : i < c.length), w.cell? ⟨g, k * size + i, none⟩ = some c[i]) ∧ (∀ j, w.frozen? ⟨g, j, none⟩ = false) ∧ E w c ds[k] Fk ∧
    (∀ w' d', E w' c d' Fk → Chg Fk w w' → SV te size E w' v (ds.set k d') F) ∧
    (∀ j u d', j < size → E w (c.set j u) d' Fk → SV te size E (w.setCell ⟨g, k * size + j, none⟩ u) v (ds.set k d') F ∧ Chg [g] w (w.setCell ⟨g, k * size + j, none⟩ u)) := by
  obtain ⟨g, cap, hv, hgF, _, _⟩ := h.block (by intro e; subst e; simp at hk)
  obtain ⟨vs, F2, h1, h2, h3⟩ := h
  obtain ⟨c, vs1, vs2, G1, G2, Fk, e1, e2, e3, e4, e5, e6, e7⟩ := elems_upd (c' := []) (d' := ds[k]) (Fk := []) (w' := w) h2 hk
  have hfp : fpOf v = [g] := by rw [hv]; rfl
  rw [hfp] at h3
  subst h3 e4
  have hN' := hN
  rw [List.singleton_append, List.nodup_cons, List.nodup_append, List.nodup_append] at hN'
  obtain ⟨n1, n2, ⟨n3, n4, n5⟩, n6⟩ := hN'
  have hgk : g ∉ Fk := fun hm => n1 (by simp [hm])
  have hlt := (h1.lt g (by rw [hv]; rfl)).2
  have hm : (k + 1) * size ≤ ds.length * size := Nat.mul_le_mul_right _ hk
  rw [Nat.add_mul, Nat.one_mul] at hm
  have hlen := elems_length h2
  refine ⟨g, cap, c, Fk, hv, hlt, by simp, hgk, fun b hb => by simp [hb], n3, e3, fun i hi => ?_, fun j => ?_, e5 hk, fun w' d' hE hC => ?_, fun j u d' hj hE => ?_⟩
  · subst hv
    rw [h1.cellAt _ (by omega), e1, List.getElem?_append_right (by omega), e2, show k * size + i - k * size = i by omega, List.getElem?_append_left hi, List.getElem?_eq_getElem hi]
  · subst hv
    exact h1.frozenAt j
  · refine ⟨vs, G1 ++ (Fk ++ G2), ?_, ?_, by rw [hfp]⟩
    · rw [List.length_set]
      refine ownsRow_keepB h1 fun b hb => hC.block b ?_ ?_
      · rw [hfp] at hb; rw [List.mem_singleton.1 hb]; exact hlt
      · rw [hfp] at hb; rw [List.mem_singleton.1 hb]; exact hgk
    · rw [e1, set_split hk]
      refine elems_join (elems_keep e6 fun b hb => hC.block b (elems_lt e6 b hb) ?_) e3 hE (elems_keep e7 fun b hb => hC.block b (elems_lt e7 b hb) ?_)
      · exact fun hf => n6 b hb b (by simp [hf]) rfl
      · exact fun hf => n5 b hf b hb rfl
  · subst hv
    obtain ⟨h4, h5⟩ := h1.stored (k * size + j) u
    have hC : Chg [g] w (w.setCell ⟨g, k * size + j, none⟩ u) := Chg.ofGrown h5 fun k hk => by simpa using hk.symm
    have hkp : ∀ b, b ∈ G1 ++ (Fk ++ G2) → (w.setCell ⟨g, k * size + j, none⟩ u).heap[b]? = w.heap[b]? := fun b hb => by
      refine hC.block b (elems_lt h2 b hb) ?_
      intro e
      rw [List.mem_singleton.1 e] at hb
      exact n1 hb
    refine ⟨⟨vs.set (k * size + j) u, G1 ++ (Fk ++ G2), by rw [List.length_set]; exact h4, ?_, by rw [hfp]⟩, hC⟩
    have ev : vs.set (k * size + j) u = vs1 ++ (c.set j u ++ vs2) := by
      rw [e1, List.set_append_right _ _ (by omega), e2, show k * size + j - k * size = j by omega, List.set_append_left _ _ (by omega)]
    rw [ev, set_split hk]
    exact elems_join (elems_keep e6 fun b hb => hkp b (by simp [hb])) (by rw [List.length_set]; exact e3) (SMono.keep hE fun b hb => hkp b (by simp [hb])) (elems_keep e7 fun b hb => hkp b (by simp [hb]))
def Fill (te size : Nat) (E : SE α) (w : World) (v : Value) (n : Nat) (zs : List Value) (xs : List α) (k : Nat) (F : List Nat) : Prop :=
  ∃ vs F1, w.ownsRow 0 te size v n (vs ++ (List.replicate (n - k) zs).flatten) ∧ elems size E w vs (xs.take k) F1 ∧ F = fpOf v ++ F1
theorem Fill.done {n : Nat} {zs : List Value} {xs : List α} {k : Nat} (h : Fill te size E w v n zs xs k F) (hn : xs.length = n) (hk : n ≤ k) : SV te size E w v xs F := by
  obtain ⟨vs, F1, h1, h2, h3⟩ := h
  rw [show n - k = 0 by omega, List.replicate_zero, List.flatten_nil, List.append_nil] at h1
  rw [List.take_of_length_le (by omega)] at h2
  exact ⟨vs, F1, by rw [hn]; exact h1, h2, h3⟩
theorem Fill.toExt [SMono E] {n : Nat} {zs : List Value} {xs : List α} {k : Nat} {w' : World} (h : Fill te size E w v n zs xs k F) (hx : ∃ y, w' = ext w y) : Fill te size E w' v n zs xs k F := by
  obtain ⟨y, rfl⟩ := hx
  obtain ⟨vs, F1, h1, h2, rfl⟩ := h
  have hb := below_ext w y
  exact ⟨vs, F1, ownsRow_keepB h1 (fun b hb' => hb.block b (h1.lt b (mem_fpOf.1 hb')).2), elems_keep h2 (fun b hb' => hb.block b (elems_lt h2 b hb')), rfl⟩
theorem Fill.lt [SMono E] {n : Nat} {zs : List Value} {xs : List α} {k : Nat} (h : Fill te size E w v n zs xs k F) : ∀ b ∈ F, b < w.heap.size := by
  obtain ⟨vs, F1, h1, h2, rfl⟩ := h
  intro b hb
  rcases List.mem_append.1 hb with h | h
  · exact (h1.lt b (mem_fpOf.1 h)).2
  · exact elems_lt h2 b h
theorem Fill.cell {n cap : Nat} {g : Nat} {zs : List Value} {xs : List α} {k : Nat} (h : Fill te size E w (.slice (some ⟨g, 0, none⟩) n cap) n zs xs k F) {j : Nat} (hj : j < n * size) : (∃ u, w.cell? ⟨g, j, none⟩ = some u) ∧ w.frozen? ⟨g, j, none⟩ = false ∧ g < w.heap.size := by
  obtain ⟨vs, F2, h1, h2, _⟩ := h
  refine ⟨?_, h1.frozenAt j, (h1.lt g rfl).2⟩
  rw [h1.cellAt j hj]
  have := h1.1
  exact ⟨_, List.getElem?_eq_getElem (by omega)⟩
theorem Fill.put [SMono E] {n cap g : Nat} {zs c : List Value} {xs : List α} {k : Nat} {Fk : List Nat} {w' : World} (h : Fill te size E w (.slice (some ⟨g, 0, none⟩) n cap) n zs xs k F) (hk : k < xs.length) (hn : xs.length = n) (hc : c.length = size)
    (hE : E w c xs[k] Fk) (hN : (F ++ Fk).Nodup) (hC : Chg [g] w w')
    (hr : ∀ vs rest : List Value, vs.length = k * size → w.ownsRow 0 te size (.slice (some ⟨g, 0, none⟩) n cap) n (vs ++ (zs ++ rest)) → w'.ownsRow 0 te size (.slice (some ⟨g, 0, none⟩) n cap) n (vs ++ (c ++ rest))) :
    Fill te size E w' (.slice (some ⟨g, 0, none⟩) n cap) n zs xs (k + 1) (F ++ Fk) := by
  obtain ⟨vs, F1, h1, h2, rfl⟩ := h
  have hg : g ∉ F1 ∧ g ∉ Fk := by
    rw [show fpOf (.slice (some ⟨g, 0, none⟩) n cap) = [g] from rfl, List.append_assoc, List.singleton_append, List.nodup_cons] at hN
    exact ⟨fun h => hN.1 (by simp [h]), fun h => hN.1 (by simp [h])⟩
  have hl := elems_length h2
  rw [List.length_take, Nat.min_eq_left (by omega)] at hl
  rw [show n - k = (n - (k + 1)) + 1 by omega, List.replicate_succ, List.flatten_cons] at h1
  refine ⟨vs ++ c, F1 ++ Fk, by rw [List.append_assoc]; exact hr _ _ hl h1, ?_, by simp⟩
  rw [List.take_succ_eq_append_getElem hk]
  refine elems_append (elems_keep h2 fun b hb => hC.block b (elems_lt h2 b hb) ?_) (elems_one hc (SMono.keep hE fun b hb => hC.block b (SMono.lt hE b hb) ?_))
  · intro e; rw [List.mem_singleton.1 e] at hb; exact hg.1 hb
  · intro e; rw [List.mem_singleton.1 e] at hb; exact hg.2 hb
end
section
variable {α : Type} {te : Nat} {w : World} {F : List Nat} {n cap g k : Nat} {xs : List α} {Fk : List Nat}
theorem Fill.put1 {E : SE α} [SMono E] {z u : Value} (h : Fill te 1 E w (.slice (some ⟨g, 0, none⟩) n cap) n [z] xs k F) (hk : k < xs.length) (hn : xs.length = n) (hE : E w [u] xs[k] Fk) (hN : (F ++ Fk).Nodup) :
    Fill te 1 E (w.setCell ⟨g, k, none⟩ u) (.slice (some ⟨g, 0, none⟩) n cap) n [z] xs (k + 1) (F ++ Fk) ∧ Chg [g] w (w.setCell ⟨g, k, none⟩ u) := by
  have hC : Chg [g] w (w.setCell ⟨g, k, none⟩ u) := (Chg.refl [g] w).setCell (.inl (by simp)) u
  refine ⟨h.put hk hn (c := [u]) rfl hE hN hC fun vs rest hl ho => ?_, hC⟩
  have := (ho.stored k u).1
  rwa [List.set_append_right _ _ (by omega), show k - vs.length = 0 by omega] at this
theorem Fill.put2 {E : SE α} [SMono E] {z z' u u' : Value} (h : Fill te 2 E w (.slice (some ⟨g, 0, none⟩) n cap) n [z, z'] xs k F) (hk : k < xs.length) (hn : xs.length = n) (hE : E w [u, u'] xs[k] Fk) (hN : (F ++ Fk).Nodup) :
    Fill te 2 E ((w.setCell ⟨g, k * 2, none⟩ u).setCell ⟨g, k * 2 + 1, none⟩ u') (.slice (some ⟨g, 0, none⟩) n cap) n [z, z'] xs (k + 1) (F ++ Fk) ∧ Chg [g] w ((w.setCell ⟨g, k * 2, none⟩ u).setCell ⟨g, k * 2 + 1, none⟩ u') := by
  have hC : Chg [g] w ((w.setCell ⟨g, k * 2, none⟩ u).setCell ⟨g, k * 2 + 1, none⟩ u') := ((Chg.refl [g] w).setCell (.inl (by simp)) u).setCell (.inl (by simp)) u'
  refine ⟨h.put hk hn (c := [u, u']) rfl hE hN hC fun vs rest hl ho => ?_, hC⟩
  have := ((ho.stored (k * 2) u).1.stored (k * 2 + 1) u').1
  rwa [List.set_append_right _ _ (by omega), List.set_append_right _ _ (by omega), show k * 2 - vs.length = 0 by omega, show k * 2 + 1 - vs.length = 1 by omega] at this
theorem Fill.put3 {E : SE α} [SMono E] {z z' z'' u u' u'' : Value} (h : Fill te 3 E w (.slice (some ⟨g, 0, none⟩) n cap) n [z, z', z''] xs k F) (hk : k < xs.length) (hn : xs.length = n) (hE : E w [u, u', u''] xs[k] Fk) (hN : (F ++ Fk).Nodup) :
    Fill te 3 E (((w.setCell ⟨g, k * 3, none⟩ u).setCell ⟨g, k * 3 + 1, none⟩ u').setCell ⟨g, k * 3 + 2, none⟩ u'') (.slice (some ⟨g, 0, none⟩) n cap) n [z, z', z''] xs (k + 1) (F ++ Fk) ∧ Chg [g] w (((w.setCell ⟨g, k * 3, none⟩ u).setCell ⟨g, k * 3 + 1, none⟩ u').setCell ⟨g, k * 3 + 2, none⟩ u'') := by
  have hC : Chg [g] w (((w.setCell ⟨g, k * 3, none⟩ u).setCell ⟨g, k * 3 + 1, none⟩ u').setCell ⟨g, k * 3 + 2, none⟩ u'') := (((Chg.refl [g] w).setCell (.inl (by simp)) u).setCell (.inl (by simp)) u').setCell (.inl (by simp)) u''
  refine ⟨h.put hk hn (c := [u, u', u'']) rfl hE hN hC fun vs rest hl ho => ?_, hC⟩
  have := (((ho.stored (k * 3) u).1.stored (k * 3 + 1) u').1.stored (k * 3 + 2) u'').1
  rwa [List.set_append_right _ _ (by omega), List.set_append_right _ _ (by omega), List.set_append_right _ _ (by omega), show k * 3 - vs.length = 0 by omega, show k * 3 + 1 - vs.length = 1 by omega, show k * 3 + 2 - vs.length = 2 by omega] at this
end
section
variable {P : Program} (w : World)
theorem wpList_makeF {ops : Array Oper} {rest : List Oper} {o : Oper} {a : Act} {Q : Exit → Act → World → Prop} (hgd : o.guard = none) (l c : Operand) (t : TypeId) (hop : o.op = Op.makeSlice t l c)
    {α : Type} {E : SE α} {te size bytes : Nat} {z : Value} (hT : SlT P t te size bytes z) {n : Nat} (hl : a.eval l = .int .i64 (n : Int)) (hc : a.eval c = .int .i64 (n : Int)) (xs : List α) (hlen : n ≤ 2000000000) (hby : bytes ≤ 60000)
    (h : ∀ w', Fill te size E w' (.slice (some ⟨w.heap.size, 0, none⟩) n n) n z.cells.toList xs 0 [w.heap.size] → (∃ y, w' = ext w y) → w.heap.size < w'.heap.size → wpList P ops Q rest (a.put o.dst (.slice (some ⟨w.heap.size, 0, none⟩) n n)) w') : wpList P ops Q (o :: rest) a w := by
  obtain ⟨ht, hi, hzs, hsz⟩ := hT
  obtain ⟨i, hi, hz, hs1, hs2⟩ := info_parts hi
  have hb : i.bytes * n ≤ 281474976710656 := by rw [hs2]; exact Nat.le_trans (Nat.mul_le_mul hby hlen) (by omega)
  refine wpList_make_full w hgd l c t hop 0 te i z size ht hi hz hs1 .i64 .i64 n n n hl hc rfl rfl hb (by simp only [maxLen]; omega) (Nat.zero_le _) ?_
  intro w' h1 h2
  have hx : Chg [] w w' := Chg.ofGrown h2 fun k hk => by cases hk
  refine h w' ⟨[], [], ?_, ⟨rfl, rfl⟩, rfl⟩ (hx.isExt (refl_ext w) (by simp)) (h1.lt _ rfl).2
  rw [← hzs, toList_madeCells, hzs] at h1
  simpa using h1
end
theorem nodup_more {F G : List Nat} {n : Nat} (h1 : F.Nodup) (h2 : G.Nodup) (h3 : ∀ b ∈ F, b < n) (h4 : ∀ b ∈ G, n ≤ b) : (F ++ G).Nodup :=
  List.nodup_append.2 ⟨h1, h2, fun a ha b hb e => by have := h3 a ha; have := h4 b hb; omega⟩
end Go.Proofs.Ytgnmpjjlclbieaa
namespace Go.Proofs.Ytgnmpjjlclbieaa
open Go.RowKit
theorem tI : SlT Try.prog 59 3 1 8 (.int .i64 0) := ⟨Try.underlying59, by kernel_rfl, rfl, by omega⟩
theorem take_snoc_eq {α : Type} {xs ys : List α} {k : Nat} (h1 : k < xs.length) (h2 : k < ys.length) (h : xs.take k = ys.take k) (he : xs[k] = ys[k]) : xs.take (k + 1) = ys.take (k + 1) := by
  rw [List.take_succ_eq_append_getElem h1, List.take_succ_eq_append_getElem h2, h, he]
theorem ne_of_at {α : Type} {xs ys : List α} {k : Nat} (h1 : k < xs.length) (h2 : k < ys.length) (he : ¬ xs[k] = ys[k]) : xs ≠ ys := by
  rintro rfl
  exact he rfl
theorem all_eq {α : Type} {xs ys : List α} {k : Nat} (hl : xs.length = ys.length) (hk : ¬ k < xs.length) (h : xs.take k = ys.take k) : xs = ys := by
  rwa [List.take_of_length_le (by omega), List.take_of_length_le (by omega)] at h
theorem le_maxLen {n : Nat} (h : n ≤ maxLen) : n ≤ 9223372036854775807 := by simp only [maxLen] at h; omega
theorem set_fill {α : Type} {xs : List α} {k : Nat} {z : α} (h : k < xs.length) : (xs.take k ++ List.replicate (xs.length - k) z).set k xs[k] = xs.take (k + 1) ++ List.replicate (xs.length - (k + 1)) z := by
  rw [List.set_append_right _ _ (by simp; omega), List.length_take, Nat.min_eq_left (by omega), Nat.sub_self, show xs.length - k = (xs.length - (k + 1)) + 1 by omega, List.replicate_succ, List.set_cons_zero, List.take_succ_eq_append_getElem h, List.append_assoc]
  rfl
theorem set_step {α : Type} {xs ys : List α} {k : Nat} {x : α} (hl : ys.length = xs.length) (h : k < xs.length) (hx : ys[k]'(by omega) = x) : (ys.take k ++ xs.drop k).set k x = ys.take (k + 1) ++ xs.drop (k + 1) := by
  rw [List.set_append_right _ _ (by simp; omega), List.length_take, Nat.min_eq_left (by omega), Nat.sub_self, List.drop_eq_getElem_cons h, List.set_cons_zero, List.take_succ_eq_append_getElem (by omega), hx]
  simp
def szL (left : Int) (n : Nat) : Int := if left - n < 0 then -1 else left - n
def marks (k : Int) (n : Nat) : List Int := (List.range n).map fun (i : Nat) => k + (i : Int)
@[simp] theorem marks_length (k : Int) (n : Nat) : (marks k n).length = n := by simp [marks]
theorem marks_get {k : Int} {n j : Nat} (h : j < (marks k n).length) : (marks k n)[j] = k + (j : Int) := by simp [marks]
theorem szIntS_any {A : Option Addr} {n c : Nat} {left : Int} {w : World} (hn : n ≤ 9223372036854775807) (h1 : 0 ≤ left) (h2 : left ≤ 1000000000) :
    Calls Try.prog 30 #[.slice A n c, .int .i64 left] w fun e w' => e = .returned (.int .i64 (szL left n)) ∧ w = w' := by
  unfold szL
  by_cases h : left - n < 0
  · rw [if_pos h]
    go_enter Try.func30, Try.ntmps30
    go_wp2
    go_ret
    exact ⟨rfl, rfl⟩
  · rw [if_neg h]
    go_enter Try.func30, Try.ntmps30
    go_wp2
    go_ret
    exact ⟨rfl, rfl⟩
set_option maxHeartbeats 400000 in
theorem toIntS_any {A : Option Addr} {c : Nat} {xs : List Int} {w : World} (hx : xs.length ≤ 1048576) (h1 : RI w A xs) :
    Calls Try.prog 35 #[.slice A xs.length c] w fun e w' => ∃ v F, e = .returned v ∧ (∃ y, w' = ext w y) ∧ SV 3 1 sI w' v xs F ∧ ∀ b ∈ F, w.heap.size ≤ b := by
  go_enter Try.func35, Try.ntmps35
  go_wp2_with (at_make; refine wpList_makeS (E := sI) (d := 0) _ rfl _ _ _ rfl tI rfl rfl (fun _ => ⟨rfl, rfl⟩) (by omega) (by omega) ?_; intro w1 hS hx1 hg1)
  go_loopw [4] (fun i wr => ∃ k : Nat, i = .int .i64 k ∧ k ≤ xs.length ∧ SV 3 1 sI wr (.slice (some ⟨w.heap.size, 0, none⟩) xs.length xs.length) (xs.take k ++ List.replicate (xs.length - k) 0) [w.heap.size] ∧ ∃ y, wr = ext w y) (fun i _ => xs.length - (intOf i).toNat)
  case atStart => exact ⟨0, rfl, by omega, by simpa using hS, hx1⟩
  case round =>
    obtain ⟨k, rfl, hk, hSk, y, rfl⟩ := hrel
    by_cases hlt : k < xs.length
    · obtain ⟨b, o, rfl, hb, hc⟩ := h1.atI hlt
      have hlen : (xs.take k ++ List.replicate (xs.length - k) 0).length = xs.length := by simp; omega
      have HS := Lib.hid hSk
      obtain ⟨⟨u, hu⟩, hf, hg⟩ := hSk.cell hlen (j := k) (by omega)
      clear hSk hS hx1
      go_wp2
      obtain ⟨h3, h4⟩ := HS.out.set1 hlen (k := k) (by omega) (u := .int .i64 xs[k]) (d := xs[k]) (fun _ => ⟨rfl, rfl⟩)
      refine ⟨⟨k + 1, by go_num, by omega, ?_, h4.isExt ⟨y, rfl⟩ (by simp)⟩, by simp [intOf]; omega⟩
      rwa [set_fill hlt] at h3
    · go_wp2
      go_ret
      refine ⟨_, _, rfl, ⟨y, rfl⟩, ?_, fun b hb => by rw [List.mem_singleton.1 hb]; exact Nat.le_refl _⟩
      rwa [List.take_of_length_le (by omega), show xs.length - k = 0 by omega, List.replicate_zero, List.append_nil] at hSk
set_option maxHeartbeats 400000 in
theorem eqIntS_any {A A' : Option Addr} {c c' : Nat} {xs ys : List Int} {w : World} (hx : xs.length ≤ 1000000000) (h1 : RI w A xs) (hy : ys.length ≤ 1000000000) (h2 : RI w A' ys) :
    Calls Try.prog 40 #[.slice A xs.length c, .slice A' ys.length c'] w fun e w' => e = .returned (.bool (decide (xs = ys))) ∧ ∃ y, w' = ext w y := by
  by_cases hl : xs.length = ys.length
  · have hn : ((xs.length : Int) != (ys.length : Int)) = false := by simp [hl]
    go_enter Try.func40, Try.ntmps40
    go_wp2
    go_loopw [5] (fun i wr => ∃ k : Nat, i = .int .i64 k ∧ k ≤ xs.length ∧ xs.take k = ys.take k ∧ ∃ y, wr = ext w y) (fun i _ => xs.length - (intOf i).toNat)
    case atStart => exact ⟨0, rfl, by omega, by simp, refl_ext w⟩
    case round =>
      obtain ⟨k, rfl, hk, ht, y, rfl⟩ := hrel
      have Ht := Lib.hid ht
      clear ht
      by_cases hlt : k < xs.length
      · obtain ⟨b, o, rfl, hb, hc⟩ := h1.atI hlt
        obtain ⟨b', o', rfl, hb', hc'⟩ := h2.atI (k := k) (by omega)
        go_wp2
        refine wp_region_ext (by kernel_rfl) (by kernel_rfl) ?_
        repeat (go_big_quiet_step (fail))
        refine wpQuiet_nil ?_
        rintro _ ⟨z, rfl⟩
        go_wp2
        · go_ret
          have he : ¬ xs[k] = ys[k] := by simpa using ‹(xs[k] != ys[k]) = true›
          exact ⟨by rw [decide_eq_false (ne_of_at hlt (by omega) he)]; rfl, _, ext_ext⟩
        · have he : xs[k] = ys[k] := by simpa using ‹(xs[k] != ys[k]) = false›
          exact ⟨⟨k + 1, by go_num, by omega, take_snoc_eq _ _ Ht.out he, _, ext_ext⟩, by simp [intOf]; omega⟩
      · go_wp2
        go_ret
        exact ⟨by rw [decide_eq_true (all_eq hl hlt Ht.out)]; rfl, y, rfl⟩
  · have hn : ((xs.length : Int) != (ys.length : Int)) = true := by simp; omega
    go_enter Try.func40, Try.ntmps40
    go_wp2
    go_ret
    exact ⟨by rw [decide_eq_false (by rintro rfl; exact hl rfl)]; rfl, refl_ext w⟩
set_option maxHeartbeats 400000 in
theorem markIntS_any {v : Value} {xs : List Int} {F : List Nat} {k0 : Int} {w : World} (hx : xs.length ≤ 1000000000) (hS : SV 3 1 sI w v xs F) (h0 : 0 ≤ k0) (hk0 : k0 ≤ 100000000000) :
    Calls Try.prog 42 #[v, .int .i64 k0] w fun e w' => e = .returned (.int .i64 (k0 + xs.length)) ∧ SV 3 1 sI w' v (marks k0 xs.length) F ∧ Chg F w w' := by
  obtain ⟨A, cap, rfl, _, _⟩ := hS.form
  go_enter Try.func42, Try.ntmps42
  go_wp2
  go_loopw [1, 5] (fun m i wr => ∃ k : Nat, i = .int .i64 k ∧ m = .int .i64 (k0 + k) ∧ k ≤ xs.length ∧ SV 3 1 sI wr (.slice A xs.length cap) ((marks k0 xs.length).take k ++ xs.drop k) F ∧ Chg F w wr) (fun _ i _ => xs.length - (intOf i).toNat)
  case atStart => exact ⟨0, rfl, by simp, by omega, by simpa using hS, Chg.refl F w⟩
  case round =>
    obtain ⟨k, rfl, rfl, hk, hSk, hC⟩ := hrel
    have hlen : ((marks k0 xs.length).take k ++ xs.drop k).length = xs.length := by simp; omega
    by_cases hlt : k < xs.length
    · have HS := Lib.hid hSk
      obtain ⟨g, cap', hv, hgF, _, _⟩ := hSk.block (by intro h; simp [h] at hlen; omega)
      rw [hlen] at hv
      injection hv with hA _ hc
      subst hA hc
      obtain ⟨⟨u, hu⟩, hf, hg⟩ := hSk.cell hlen (j := k) (by omega)
      clear hSk hS
      go_wp2
      obtain ⟨h3, h4⟩ := HS.out.set1 hlen (k := k) (by omega) (u := .int .i64 (k0 + k)) (d := k0 + k) (fun _ => ⟨rfl, rfl⟩)
      refine ⟨⟨k + 1, by go_num, by congr 1; omega, by omega, ?_, hC.trans h4 (by simp [hgF])⟩, by simp [intOf]; omega⟩
      rwa [set_step (by simp) hlt (marks_get _)] at h3
    · go_wp2
      go_ret
      have e : k = xs.length := by omega
      subst e
      exact ⟨rfl, by rwa [List.take_of_length_le (by simp), List.drop_length, List.append_nil] at hSk, hC⟩
set_option maxHeartbeats 400000 in
theorem heldIntS_any {A : Option Addr} {c n : Nat} {k0 : Int} {w : World} (hx : n ≤ 1000000000) (h1 : RI w A (marks k0 n)) (h0 : 0 ≤ k0) (hk0 : k0 ≤ 100000000000) :
    Calls Try.prog 50 #[.slice A n c, .int .i64 k0] w fun e w' => e = .returned (.int .i64 (k0 + n)) ∧ ∃ y, w' = ext w y := by
  go_enter Try.func50, Try.ntmps50
  go_wp2
  go_loopw [1, 5] (fun m i wr => ∃ k : Nat, i = .int .i64 k ∧ m = .int .i64 (k0 + k) ∧ k ≤ n ∧ ∃ y, wr = ext w y) (fun _ i _ => n - (intOf i).toNat)
  case atStart => exact ⟨0, rfl, by simp, by omega, refl_ext w⟩
  case round =>
    obtain ⟨k, rfl, rfl, hk, y, rfl⟩ := hrel
    by_cases hlt : k < n
    · obtain ⟨b, o, rfl, hb, hc⟩ := h1.atI (k := k) (by simpa using hlt)
      rw [marks_get] at hc
      go_wp2
      exact ⟨⟨k + 1, by go_num, by congr 1; omega, by omega, y, rfl⟩, by simp [intOf]; omega⟩
    · go_wp2
      go_ret
      have e : k = n := by omega
      subst e
      exact ⟨rfl, y, rfl⟩
end Go.Proofs.Ytgnmpjjlclbieaa
namespace Go.Proofs.Ytgnmpjjlclbieaa
open Go.RowKit
def marksR (k : Int) (n : Nat) : List (Int × Int) := (List.range n).map fun (i : Nat) => (k + 2 * (i : Int), k + 2 * (i : Int) + 1)
@[simp] theorem marksR_length (k : Int) (n : Nat) : (marksR k n).length = n := by simp [marksR]
theorem marksR_get {k : Int} {n j : Nat} (h : j < (marksR k n).length) : (marksR k n)[j] = (k + 2 * (j : Int), k + 2 * (j : Int) + 1) := by simp [marksR]
end Go.Proofs.Ytgnmpjjlclbieaa
namespace Go.Proofs.Ytgnmpjjlclbieaa
open Go.RowKit
section
variable {α : Type}
def szG (f : Int → α → Int) : Int → List α → Int
  | l, [] => l
  | l, x :: xs => if f l x < 0 then -1 else szG f (f l x) xs
def szN (f : Int → α → Int) (left : Int) (xs : List α) : Int := if left - xs.length < 0 then -1 else szG f (left - xs.length) xs
theorem szG_step {f : Int → α → Int} {l : Int} {xs : List α} {k : Nat} (h : k < xs.length) (h1 : 0 ≤ f l xs[k]) : szG f l (xs.drop k) = szG f (f l xs[k]) (xs.drop (k + 1)) := by
  rw [List.drop_eq_getElem_cons h, szG, if_neg (by omega)]
theorem szG_stop {f : Int → α → Int} {l : Int} {xs : List α} {k : Nat} (h : k < xs.length) (h1 : f l xs[k] < 0) : szG f l (xs.drop k) = -1 := by
  rw [List.drop_eq_getElem_cons h, szG, if_pos h1]
theorem szG_end {f : Int → α → Int} {l : Int} {xs : List α} {k : Nat} (h : ¬ k < xs.length) : szG f l (xs.drop k) = l := by
  rw [List.drop_eq_nil_of_le (by omega), szG]
theorem szG_le {f : Int → α → Int} (hf : ∀ l x, 0 ≤ f l x → f l x ≤ l) : ∀ (xs : List α) (l : Int), 0 ≤ szG f l xs → szG f l xs ≤ l
  | [], l, _ => Int.le_refl l
  | x :: xs, l, h => by
    rw [szG] at h ⊢
    split at h
    · omega
    · rename_i h1
      rw [if_neg h1]
      exact Int.le_trans (szG_le hf xs _ h) (hf l x (by omega))
theorem szG_each {f : Int → α → Int} {c : α → Nat} (hf : ∀ l x, 0 ≤ f l x → f l x ≤ l - c x) : ∀ (xs : List α) (l : Int), 0 ≤ szG f l xs → szG f l xs + ((xs.map c).sum : Nat) ≤ l
  | [], l, _ => by simp [szG]
  | x :: xs, l, h => by
    rw [szG] at h ⊢
    split at h
    · omega
    · rename_i h1
      rw [if_neg h1]
      have h2 := szG_each hf xs _ h
      have h3 := hf l x (by omega)
      rw [List.map_cons, List.sum_cons]
      omega
theorem szN_le {f : Int → α → Int} (hf : ∀ l x, 0 ≤ f l x → f l x ≤ l) {left : Int} {xs : List α} (h : 0 ≤ szN f left xs) : szN f left xs ≤ left := by
  unfold szN at h ⊢
  split at h
  · omega
  · rename_i h1
    rw [if_neg h1]
    have := szG_le hf xs _ h
    omega
theorem szN_small {f : Int → α → Int} {c : α → Nat} (hf : ∀ l x, 0 ≤ f l x → f l x ≤ l - c x) {left : Int} {xs : List α} (h : 0 ≤ szN f left xs) : (xs.length : Int) + ((xs.map c).sum : Nat) ≤ left := by
  unfold szN at h
  split at h
  · omega
  · have := szG_each hf xs _ h
    omega
theorem sum_each {c : α → Nat} : ∀ {xs : List α} {x : α}, x ∈ xs → c x ≤ (xs.map c).sum
  | y :: xs, x, h => by
    rw [List.map_cons, List.sum_cons]
    rcases List.mem_cons.1 h with e | e
    · subst e; omega
    · have := sum_each (c := c) e
      omega
def mkN (mk : Int → α → α × Int) : Int → List α → List α × Int
  | k, [] => ([], k)
  | k, x :: xs => ((mk k x).1 :: (mkN mk (mk k x).2 xs).1, (mkN mk (mk k x).2 xs).2)
@[simp] theorem mkN_length (mk : Int → α → α × Int) : ∀ (xs : List α) (k : Int), (mkN mk k xs).1.length = xs.length
  | [], _ => rfl
  | x :: xs, k => by simp [mkN, mkN_length mk xs]
theorem mkN_append (mk : Int → α → α × Int) : ∀ (xs ys : List α) (k : Int), mkN mk k (xs ++ ys) = ((mkN mk k xs).1 ++ (mkN mk (mkN mk k xs).2 ys).1, (mkN mk (mkN mk k xs).2 ys).2)
  | [], ys, k => rfl
  | x :: xs, ys, k => by simp [mkN, mkN_append mk xs]
theorem mkN_take {mk : Int → α → α × Int} {k : Int} {xs : List α} {i : Nat} (h : i < xs.length) : mkN mk k (xs.take (i + 1)) = ((mkN mk k (xs.take i)).1 ++ [(mk (mkN mk k (xs.take i)).2 xs[i]).1], (mk (mkN mk k (xs.take i)).2 xs[i]).2) := by
  rw [List.take_succ_eq_append_getElem h, mkN_append]
  rfl
theorem mkN_at {mk : Int → α → α × Int} {k : Int} {xs : List α} {i : Nat} (h : i < xs.length) : (mkN mk k xs).1[i]'(by simpa using h) = (mk (mkN mk k (xs.take i)).2 xs[i]).1 := by
  have e : xs = xs.take i ++ (xs[i] :: xs.drop (i + 1)) := by rw [← List.drop_eq_getElem_cons h, List.take_append_drop]
  have e2 : (mkN mk k xs).1[i]? = (mkN mk k (xs.take i ++ (xs[i] :: xs.drop (i + 1)))).1[i]? := by rw [← e]
  rw [mkN_append] at e2
  simp only [mkN] at e2
  rw [List.getElem?_append_right (by simp; omega)] at e2
  rw [List.getElem?_eq_getElem (by simpa using h)] at e2
  simp at e2
  have hz : i - min i xs.length = 0 := by omega
  rw [hz] at e2
  simpa using e2
theorem mkN_sum {mk : Int → α → α × Int} {c : α → Nat} (hm : ∀ k x, (mk k x).2 = k + c x) : ∀ (xs : List α) (k : Int), (mkN mk k xs).2 = k + ((xs.map c).sum : Nat)
  | [], k => by simp [mkN]
  | x :: xs, k => by
    rw [mkN]
    simp only
    rw [mkN_sum hm xs, hm, List.map_cons, List.sum_cons]
    omega
theorem sum_take_le {c : α → Nat} (xs : List α) (i : Nat) : ((xs.take i).map c).sum ≤ (xs.map c).sum := by
  conv => rhs; rw [← List.take_append_drop i xs]
  rw [List.map_append, List.sum_append]
  omega
theorem mk_set {mk : Int → α → α × Int} {k : Int} {xs : List α} {i : Nat} (h : i < xs.length) : ((mkN mk k (xs.take i)).1 ++ xs.drop i).set i (mk (mkN mk k (xs.take i)).2 xs[i]).1 = (mkN mk k (xs.take (i + 1))).1 ++ xs.drop (i + 1) := by
  rw [mkN_take h, List.set_append_right _ _ (by simp; omega), show i - (mkN mk k (xs.take i)).1.length = 0 by simp; omega, List.drop_eq_getElem_cons h, List.set_cons_zero]
  simp
theorem mk_get {mk : Int → α → α × Int} {k : Int} {xs : List α} {i : Nat} (h : i < xs.length) (h' : i < ((mkN mk k (xs.take i)).1 ++ xs.drop i).length) : ((mkN mk k (xs.take i)).1 ++ xs.drop i)[i] = xs[i] := by
  rw [List.getElem_append_right (by simp; omega)]
  simp [show i - min i xs.length = 0 by omega]
end
def szI (l : Int) (x : List Int) : Int := szL l x.length
theorem szL_sub {l : Int} {n : Nat} (h : 0 ≤ szL l n) : szL l n ≤ l - n := by
  unfold szL at h ⊢
  split at h
  · omega
  · rename_i h1; rw [if_neg h1]; omega
theorem szI_sub (l : Int) (x : List Int) (h : 0 ≤ szI l x) : szI l x ≤ l - x.length := szL_sub h
def mkI (k : Int) (x : List Int) : List Int × Int := (marks k x.length, k + x.length)
theorem tII : SlT Try.prog 25 59 1 24 (.slice none 0 0) := ⟨Try.underlying25, by kernel_rfl, rfl, by omega⟩
set_option maxHeartbeats 1000000 in
theorem szIntSS_any {A : Option Addr} {c : Nat} {xs : List (List Int)} {left : Int} {w : World} (hn : xs.length ≤ 9223372036854775807) (h : RII w A xs) (hl : ∀ x ∈ xs, x.length ≤ 9223372036854775807) (h1 : 0 ≤ left) (h2 : left ≤ 1000000000) :
    Calls Try.prog 16 #[.slice A xs.length c, .int .i64 left] w fun e w' => e = .returned (.int .i64 (szN szI left xs)) ∧ ∃ y, w' = ext w y := by
  have Hl := Lib.hid hl
  clear hl
  by_cases h0 : left - xs.length < 0
  · rw [show szN szI left xs = -1 by unfold szN; rw [if_pos h0]]
    go_enter Try.func16, Try.ntmps16
    go_wp2
    go_ret
    exact ⟨rfl, refl_ext w⟩
  · rw [show szN szI left xs = szG szI (left - xs.length) xs by unfold szN; rw [if_neg h0]]
    go_enter Try.func16, Try.ntmps16
    go_wp2
    go_loopw [1, 5] (fun m i wr => ∃ (k : Nat) (l : Int), m = .int .i64 l ∧ i = .int .i64 k ∧ k ≤ xs.length ∧ 0 ≤ l ∧ l ≤ left ∧ szG szI l (xs.drop k) = szG szI (left - xs.length) xs ∧ ∃ y, wr = ext w y) (fun _ i _ => xs.length - (intOf i).toNat)
    case atStart => exact ⟨0, left - xs.length, rfl, rfl, by omega, by omega, by omega, by simp, refl_ext w⟩
    case round =>
      obtain ⟨k, l, rfl, rfl, hk, hl0, hl1, hj, hy⟩ := hrel
      have Hj := Lib.hid hj
      clear hj
      have h' := h.toExt hy
      by_cases hlt : k < xs.length
      · obtain ⟨b, o, A', c', rfl, hb, hc, hv⟩ := h'.atV hlt
        have hle := Hl.out xs[k] (List.getElem_mem hlt)
        by_cases hs : 0 ≤ szI l xs[k]
        · have e := Hj.out
          rw [szG_step hlt hs] at e
          have he := szI_sub l xs[k] hs
          obtain ⟨r, hr⟩ : ∃ r, szI l xs[k] = r := ⟨_, rfl⟩
          rw [hr] at e hs he
          have He := Lib.hid e
          have Hr := Lib.hid hr
          clear e hr
          go_wp2_with (go_at_call 30; refine (szIntS_any hle (by omega) (by omega)).mono ?_; rintro e w' ⟨rfl, rfl⟩; rw [show szL l xs[k].length = r from Hr.out])
          exact ⟨⟨k + 1, r, rfl, by go_num, by omega, by omega, by omega, He.out, (by refine x'z ?_; repeat (with_reducible (first | exact x'a _ _ | exact x'b _ | exact x'c (by assumption) | refine x'd ?_ (by assumption) | refine x'e ?_ _ | refine x'f ?_ _ | refine x'g ?_ | refine x'h ?_ ?_ _ | refine x'i ?_ _ | refine x'j ?_ | refine x'k ?_ _ | refine x'l ?_ _ _ | refine x'm ?_ | assumption | (refine x'n ?_; omega) | omega)))⟩, by simp [intOf]; omega⟩
        · have hs : szI l xs[k] < 0 := by omega
          have e := Hj.out
          rw [szG_stop hlt hs] at e
          obtain ⟨r, hr⟩ : ∃ r, szI l xs[k] = r := ⟨_, rfl⟩
          rw [hr] at hs
          have He := Lib.hid e
          have Hr := Lib.hid hr
          clear e hr
          go_wp2_with (go_at_call 30; refine (szIntS_any hle (by omega) (by omega)).mono ?_; rintro e w' ⟨rfl, rfl⟩; rw [show szL l xs[k].length = r from Hr.out])
          go_ret
          exact ⟨by rw [← He.out]; rfl, (by refine x'z ?_; repeat (with_reducible (first | exact x'a _ _ | exact x'b _ | exact x'c (by assumption) | refine x'd ?_ (by assumption) | refine x'e ?_ _ | refine x'f ?_ _ | refine x'g ?_ | refine x'h ?_ ?_ _ | refine x'i ?_ _ | refine x'j ?_ | refine x'k ?_ _ | refine x'l ?_ _ _ | refine x'm ?_ | assumption | (refine x'n ?_; omega) | omega)))⟩
      · go_wp2
        go_ret
        have e := Hj.out
        rw [szG_end hlt] at e
        exact ⟨by rw [← e]; rfl, hy⟩
set_option maxHeartbeats 1000000 in
theorem toIntSS_any {A : Option Addr} {c : Nat} {xs : List (List Int)} {w : World} (hx : xs.length ≤ 1048576) (h1 : RII w A xs) (hl : ∀ x ∈ xs, x.length ≤ 1048576) :
    Calls Try.prog 20 #[.slice A xs.length c] w fun e w' => ∃ v F, e = .returned v ∧ (∃ y, w' = ext w y) ∧ SV 59 1 (sSl 3 1 sI) w' v xs F ∧ F.Nodup ∧ ∀ b ∈ F, w.heap.size ≤ b := by
  have Hl := Lib.hid hl
  clear hl
  go_enter Try.func20, Try.ntmps20
  go_wp2_with (at_make; refine wpList_makeF (E := (sSl 3 1 sI)) _ rfl _ _ _ rfl tII rfl rfl xs (by omega) (by omega) ?_; intro w1 hS hx1 hg1)
  go_loopw [4] (fun i wr => ∃ (k : Nat) (F : List Nat), i = .int .i64 k ∧ k ≤ xs.length ∧ Fill 59 1 (sSl 3 1 sI) wr (.slice (some ⟨w.heap.size, 0, none⟩) xs.length xs.length) xs.length [.slice none 0 0] xs k F ∧ F.Nodup ∧ (∀ b ∈ F, w.heap.size ≤ b) ∧ ∃ y, wr = ext w y) (fun i _ => xs.length - (intOf i).toNat)
  case atStart => exact ⟨0, _, rfl, by omega, hS, by simp, by simp, hx1⟩
  case round =>
    obtain ⟨k, F, rfl, hk, hSk, hN, hF, hy⟩ := hrel
    have HF := Lib.hid hF
    have HN := Lib.hid hN
    clear hF hN
    have h1' := h1.toExt hy
    by_cases hlt : k < xs.length
    · obtain ⟨b, o, A', c', rfl, hb, hc, hv⟩ := h1'.atV hlt
      have hle := Hl.out xs[k] (List.getElem_mem hlt)
      clear hS hx1
      go_wp2_with (go_at_call 35; refine (toIntS_any hle hv).mono ?_; rintro e w2 ⟨v2, F2, rfl, hx2, hS2, hF2⟩; obtain ⟨A2, c2, rfl, _⟩ := hS2.form; have HS := Lib.hid (hSk.toExt hx2); have Hc := HS.out.cell (j := k) (by omega); obtain ⟨⟨u, hu⟩, hf, hg⟩ := Hc)
      obtain ⟨h3, h4⟩ := HS.out.put1 hlt rfl (Fk := F2) ⟨_, rfl, hS2⟩ (nodup_more HN.out hS2.nodup hSk.lt hF2)
      exact ⟨⟨k + 1, F ++ F2, by go_num, by omega, h3, nodup_more HN.out hS2.nodup hSk.lt hF2, fun b hb => by
        rcases List.mem_append.1 hb with h | h
        · exact HF.out b h
        · exact Nat.le_trans (size_of_ext hy) (hF2 b h), (h4.isExt (trans_ext hy hx2) (by simp))⟩, by simp [intOf]; omega⟩
    · go_wp2
      go_ret
      exact ⟨_, F, rfl, hy, hSk.done rfl (by omega), HN.out, HF.out⟩
set_option maxHeartbeats 1000000 in
theorem eqIntSS_any {A A' : Option Addr} {c c' : Nat} {xs ys : List (List Int)} {w : World} (hx : xs.length ≤ 1000000000) (h1 : RII w A xs) (hxl : ∀ x ∈ xs, x.length ≤ 1000000000) (hy : ys.length ≤ 1000000000) (h2 : RII w A' ys) (hyl : ∀ x ∈ ys, x.length ≤ 1000000000) :
    Calls Try.prog 25 #[.slice A xs.length c, .slice A' ys.length c'] w fun e w' => e = .returned (.bool (decide (xs = ys))) ∧ ∃ y, w' = ext w y := by
  have Hxl := Lib.hid hxl
  have Hyl := Lib.hid hyl
  clear hxl hyl
  by_cases hl : xs.length = ys.length
  · have hn : ((xs.length : Int) != (ys.length : Int)) = false := by simp [hl]
    have hl2 : ys.length ≤ xs.length := by omega
    have hl3 : xs.length ≤ ys.length := by omega
    have HL := Lib.hid hl
    clear hl
    go_enter Try.func25, Try.ntmps25
    go_wp2
    go_loopw [5] (fun i wr => ∃ k : Nat, i = .int .i64 k ∧ k ≤ xs.length ∧ xs.take k = ys.take k ∧ ∃ y, wr = ext w y) (fun i _ => xs.length - (intOf i).toNat)
    case atStart => exact ⟨0, rfl, by omega, by simp, refl_ext w⟩
    case round =>
      obtain ⟨k, rfl, hk, ht, hy⟩ := hrel
      have Ht := Lib.hid ht
      clear ht
      have h1' := h1.toExt hy
      have h2' := h2.toExt hy
      by_cases hlt : k < xs.length
      · have hlt2 : k < ys.length := by omega
        obtain ⟨b, o, A1, c1, rfl, hb, hc, hv⟩ := h1'.atV hlt
        obtain ⟨b', o', A2, c2, rfl, hb', hc', hv'⟩ := h2'.atV hlt2
        have q1 := Hxl.out xs[k] (List.getElem_mem hlt)
        have q2 := Hyl.out ys[k] (List.getElem_mem hlt2)
        by_cases he : xs[k] = ys[k]
        · have He := Lib.hid he
          have Hd := Lib.hid (show decide (xs[k] = ys[k]) = true by simp [he])
          clear he
          go_wp2
          refine wp_region_ext (by kernel_rfl) (by kernel_rfl) ?_
          repeat (go_big_quiet_step ((go_at_call 40; exact quietEb (eqIntS_any q1 hv.ext q2 hv'.ext) Hd.out)))
          refine wpQuiet_nil ?_
          rintro _ ⟨z, rfl⟩
          go_wp2
          exact ⟨⟨k + 1, by go_num, by omega, take_snoc_eq _ _ Ht.out He.out, (by refine x'z ?_; repeat (with_reducible (first | exact x'a _ _ | exact x'b _ | exact x'c (by assumption) | refine x'd ?_ (by assumption) | refine x'e ?_ _ | refine x'f ?_ _ | refine x'g ?_ | refine x'h ?_ ?_ _ | refine x'i ?_ _ | refine x'j ?_ | refine x'k ?_ _ | refine x'l ?_ _ _ | refine x'm ?_ | assumption | (refine x'n ?_; omega) | omega)))⟩, by simp [intOf]; omega⟩
        · have He := Lib.hid he
          have Hd := Lib.hid (show decide (xs[k] = ys[k]) = false by simp [he])
          clear he
          go_wp2
          refine wp_region_ext (by kernel_rfl) (by kernel_rfl) ?_
          repeat (go_big_quiet_step ((go_at_call 40; exact quietEb (eqIntS_any q1 hv.ext q2 hv'.ext) Hd.out)))
          refine wpQuiet_nil ?_
          rintro _ ⟨z, rfl⟩
          go_wp2
          go_ret
          exact ⟨by rw [decide_eq_false (ne_of_at hlt hlt2 He.out)]; rfl, (by refine x'z ?_; repeat (with_reducible (first | exact x'a _ _ | exact x'b _ | exact x'c (by assumption) | refine x'd ?_ (by assumption) | refine x'e ?_ _ | refine x'f ?_ _ | refine x'g ?_ | refine x'h ?_ ?_ _ | refine x'i ?_ _ | refine x'j ?_ | refine x'k ?_ _ | refine x'l ?_ _ _ | refine x'm ?_ | assumption | (refine x'n ?_; omega) | omega)))⟩
      · go_wp2
        go_ret
        exact ⟨by rw [decide_eq_true (all_eq HL.out hlt Ht.out)]; rfl, hy⟩
  · have hn : ((xs.length : Int) != (ys.length : Int)) = true := by simp; omega
    go_enter Try.func25, Try.ntmps25
    go_wp2
    go_ret
    exact ⟨by rw [decide_eq_false (by rintro rfl; exact hl rfl)]; rfl, refl_ext w⟩
theorem mkI_sum (k : Int) (xs : List (List Int)) : (mkN mkI k xs).2 = k + ((xs.map fun x => x.length).sum : Nat) := mkN_sum (fun k x => by simp [mkI]) xs k
theorem mkI_bd {k : Int} {xs : List (List Int)} (h0 : 0 ≤ k) (hs : k + ((xs.map fun x => x.length).sum : Nat) ≤ 100000000000) (i : Nat) : 0 ≤ (mkN mkI k (xs.take i)).2 ∧ (mkN mkI k (xs.take i)).2 ≤ 100000000000 := by
  rw [mkI_sum]
  have := sum_take_le (c := fun x => x.length) xs i
  omega
set_option maxHeartbeats 1000000 in
theorem markIntSS_any {v : Value} {xs : List (List Int)} {F : List Nat} {k0 : Int} {w : World} (hx : xs.length ≤ 1000000000) (hxl : ∀ x ∈ xs, x.length ≤ 1000000000) (hS : SV 59 1 (sSl 3 1 sI) w v xs F) (hN : F.Nodup) (h0 : 0 ≤ k0) (hk0 : k0 + ((xs.map fun x => x.length).sum : Nat) ≤ 100000000000) :
    Calls Try.prog 27 #[v, .int .i64 k0] w fun e w' => e = .returned (.int .i64 (mkN mkI k0 xs).2) ∧ SV 59 1 (sSl 3 1 sI) w' v (mkN mkI k0 xs).1 F ∧ Chg F w w' := by
  have Hxl := Lib.hid hxl
  have HN := Lib.hid hN
  have HB := Lib.hid (mkI_bd h0 hk0)
  clear hxl hN hk0
  obtain ⟨A, cap, rfl, _, _⟩ := hS.form
  go_enter Try.func27, Try.ntmps27
  go_wp2
  go_loopw [1, 5] (fun m i wr => ∃ k : Nat, i = .int .i64 k ∧ m = .int .i64 (mkN mkI k0 (xs.take k)).2 ∧ k ≤ xs.length ∧ SV 59 1 (sSl 3 1 sI) wr (.slice A xs.length cap) ((mkN mkI k0 (xs.take k)).1 ++ xs.drop k) F ∧ Chg F w wr) (fun _ i _ => xs.length - (intOf i).toNat)
  case atStart => exact ⟨0, rfl, by simp [mkN], by omega, by simpa [mkN] using hS, Chg.refl F w⟩
  case round =>
    obtain ⟨k, rfl, rfl, hk, hSk, hC⟩ := hrel
    have hlen : ((mkN mkI k0 (xs.take k)).1 ++ xs.drop k).length = xs.length := by simp; omega
    by_cases hlt : k < xs.length
    · obtain ⟨g, cap', c, Fk, hv, hg, hgF, hgk, hsub, hNk, hcl, hcell, hfz, hE, hup, _⟩ := hSk.at HN.out (k := k) (by omega)
      rw [hlen] at hv
      injection hv with hA _ hc
      subst hA hc
      obtain ⟨_, rfl, hS2⟩ := hE
      rw [mk_get hlt] at hS2
      have hc0 := hcell 0 (by simp)
      simp only [Nat.mul_one, Nat.add_zero, List.getElem_cons_zero] at hc0
      have Hup := Lib.hid hup
      have Hsub := Lib.hid hsub
      have hle := Hxl.out xs[k] (List.getElem_mem hlt)
      obtain ⟨b1, b2⟩ := HB.out k
      obtain ⟨m, hm⟩ : ∃ m, (mkN mkI k0 (xs.take k)).2 = m := ⟨_, rfl⟩
      have HM := Lib.hid hm
      rw [hm] at b1 b2 ⊢
      have HL := Lib.hid hlen
      clear hcell hup hsub hcl hS hm hlen hfz
      go_wp2_with (go_at_call 42; refine (markIntS_any hle hS2 b1 b2).mono ?_; rintro e w2 ⟨rfl, hS3, hC3⟩)
      have h3 := Hup.out w2 _ ⟨_, rfl, hS3⟩ hC3
      have e3 := mk_set (mk := mkI) (k := k0) hlt
      rw [HM.out] at e3
      have e4 : (mkN mkI k0 (xs.take (k + 1))).2 = m + xs[k].length := by rw [mkN_take hlt, HM.out]; rfl
      exact ⟨⟨k + 1, by go_num, by rw [e4], by omega, by rw [← e3]; exact h3, hC.trans hC3 (fun x hx => .inl (Hsub.out x hx))⟩, by simp [intOf]; omega⟩
    · go_wp2
      go_ret
      have e : k = xs.length := by omega
      subst e
      rw [List.take_length] at hSk ⊢
      exact ⟨rfl, by rwa [List.drop_length, List.append_nil] at hSk, hC⟩
set_option maxHeartbeats 1000000 in
theorem heldIntSS_any {A : Option Addr} {c n : Nat} {xs : List (List Int)} {k0 : Int} {w : World} (hn : xs.length = n) (hx : n ≤ 1000000000) (hxl : ∀ x ∈ xs, x.length ≤ 1000000000) (h1 : RII w A (mkN mkI k0 xs).1) (h0 : 0 ≤ k0) (hk0 : k0 + ((xs.map fun x => x.length).sum : Nat) ≤ 100000000000) :
    Calls Try.prog 43 #[.slice A n c, .int .i64 k0] w fun e w' => e = .returned (.int .i64 (mkN mkI k0 xs).2) ∧ ∃ y, w' = ext w y := by
  subst hn
  have Hxl := Lib.hid hxl
  have HB := Lib.hid (mkI_bd h0 hk0)
  clear hxl hk0
  go_enter Try.func43, Try.ntmps43
  go_wp2
  go_loopw [1, 5] (fun m i wr => ∃ k : Nat, i = .int .i64 k ∧ m = .int .i64 (mkN mkI k0 (xs.take k)).2 ∧ k ≤ xs.length ∧ ∃ y, wr = ext w y) (fun _ i _ => xs.length - (intOf i).toNat)
  case atStart => exact ⟨0, rfl, by simp [mkN], by omega, refl_ext w⟩
  case round =>
    obtain ⟨k, rfl, rfl, hk, hy⟩ := hrel
    by_cases hlt : k < xs.length
    · obtain ⟨b, o, A2, c2, rfl, hb, hc, hv⟩ := (h1.toExt hy).atV (k := k) (by simpa using hlt)
      rw [mkN_at hlt] at hc hv
      have hle := Hxl.out xs[k] (List.getElem_mem hlt)
      obtain ⟨b1, b2⟩ := HB.out k
      obtain ⟨b3, _⟩ := HB.out (k + 1)
      rw [mkN_take hlt] at b3
      obtain ⟨m, hm⟩ : ∃ m, (mkN mkI k0 (xs.take k)).2 = m := ⟨_, rfl⟩
      have HM := Lib.hid hm
      rw [hm] at b1 b2 b3 hc hv ⊢
      have e5 : (mkI m xs[k]).1.length = xs[k].length := by simp [mkI]
      rw [e5] at hc
      have b4 : 0 ≤ m + xs[k].length := b3
      clear hm e5 b3
      go_wp2_with (go_at_call 50; refine (heldIntS_any hle hv b1 b2).mono ?_; rintro e w2 ⟨rfl, hx2⟩)
      have e4 : (mkN mkI k0 (xs.take (k + 1))).2 = m + xs[k].length := by rw [mkN_take hlt, HM.out]; rfl
      exact ⟨⟨k + 1, by go_num, by rw [e4], by omega, (by refine x'z ?_; repeat (with_reducible (first | exact x'a _ _ | exact x'b _ | exact x'c (by assumption) | refine x'd ?_ (by assumption) | refine x'e ?_ _ | refine x'f ?_ _ | refine x'g ?_ | refine x'h ?_ ?_ _ | refine x'i ?_ _ | refine x'j ?_ | refine x'k ?_ _ | refine x'l ?_ _ _ | refine x'm ?_ | assumption | (refine x'n ?_; omega) | omega)))⟩, by simp [intOf]; omega⟩
    · go_wp2
      go_ret
      have e : k = xs.length := by omega
      subst e
      rw [List.take_length]
      exact ⟨rfl, hy⟩
end Go.Proofs.Ytgnmpjjlclbieaa
namespace Go.Proofs.Ytgnmpjjlclbieaa
open Go.RowKit
theorem OD.toExt {α : Type} {E : SE α} [SMono E] {w w' : World} {cs : List Value} {d : α} {F : List Nat} (h : E w cs d F) (hx : ∃ y, w' = ext w y) : E w' cs d F := by
  obtain ⟨y, rfl⟩ := hx
  exact SMono.keep h fun b hb => (below_ext w y).block b (SMono.lt h b hb)
theorem OD.chg {α : Type} {E : SE α} [SMono E] {w w' : World} {cs : List Value} {d : α} {F G : List Nat} (h : E w cs d F) (hc : Chg G w w') (hd : ∀ b ∈ F, b ∉ G) : E w' cs d F := SMono.keep h fun b hb => hc.block b (SMono.lt h b hb) (hd b hb)
theorem VD.toExt {α : Type} {V : VE α} [VMono V] {w w' : World} {cs : List Value} {d : α} (h : V w cs d) (hx : ∃ y, w' = ext w y) : V w' cs d := by
  obtain ⟨y, rfl⟩ := hx
  exact VMono.ext h
def QSS {α : Type} (d : List (List α)) : Prop := d.length ≤ maxLen ∧ ∀ x ∈ d, x.length ≤ maxLen
def BSS {α : Type} (d : List (List α)) : Prop := d.length ≤ 1048576 ∧ (d.map List.length).sum ≤ 1048576
theorem BSS.each {α : Type} {d : List (List α)} (h : BSS d) : ∀ x ∈ d, x.length ≤ 1048576 := fun _ hx => Nat.le_trans (sum_each (c := List.length) hx) h.2
theorem BSS.big {α : Type} {d : List (List α)} (h : BSS d) : ∀ x ∈ d, x.length ≤ 1000000000 := fun x hx => Nat.le_trans (h.each x hx) (by omega)
theorem sum_one {α : Type} (d : List (List α)) : (d.map fun x => x.length).sum = (d.map List.length).sum := rfl
abbrev vII : VE (List (List Int)) := vSl 1 (vSl 1 vI)
abbrev sII : SE (List (List Int)) := sSl 59 1 (sSl 3 1 sI)
theorem sII_v {w : World} (c : List Value) (d : List (List Int)) (F : List Nat) (h : sII w c d F) : vII w c d := sSl_v (sSl_v sI_v) c d F h
theorem vII_get {w : World} {A : Option Addr} {n c : Nat} {d : List (List Int)} (h : vII w [.slice A n c] d) : n = d.length ∧ RII w A d := by
  obtain ⟨A', c', e, h⟩ := h
  injection e with e
  injection e with e1 e2 e3
  subst e1
  exact ⟨e2, h⟩
theorem sII_form {w : World} {v : Value} {d : List (List Int)} {F : List Nat} (h : sII w [v] d F) : ∃ A c, v = .slice A d.length c := by
  obtain ⟨v', e, h⟩ := h
  injection e with e
  subst e
  obtain ⟨A, c, e, _⟩ := h.form
  exact ⟨A, c, e⟩
theorem szII_le {left : Int} {xs : List (List Int)} (h : 0 ≤ szN szI left xs) : szN szI left xs ≤ left := szN_le (fun l x h => by have := szI_sub l x h; omega) h
theorem szII_small {left : Int} {xs : List (List Int)} (h : 0 ≤ szN szI left xs) (hl : left ≤ 1048576) : BSS xs := by
  have := szN_small (c := List.length) (szI_sub) h
  exact ⟨by omega, by omega⟩
theorem szIntSS_d {A : Option Addr} {c : Nat} {d : List (List Int)} {left : Int} {w : World} (hq : QSS d) (h : vII w [.slice A d.length c] d) (h1 : 0 ≤ left) (h2 : left ≤ 1000000000) :
    Calls Try.prog 16 #[.slice A d.length c, .int .i64 left] w fun e w' => e = .returned (.int .i64 (szN szI left d)) ∧ ∃ y, w' = ext w y :=
  szIntSS_any (le_maxLen hq.1) (vII_get h).2 (fun x hx => le_maxLen (hq.2 x hx)) h1 h2
theorem toIntSS_d {A : Option Addr} {c : Nat} {d : List (List Int)} {w : World} (hb : BSS d) (h : vII w [.slice A d.length c] d) :
    Calls Try.prog 20 #[.slice A d.length c] w fun e w' => ∃ v F, e = .returned v ∧ (∃ y, w' = ext w y) ∧ sII w' [v] d F ∧ F.Nodup ∧ ∀ b ∈ F, w.heap.size ≤ b := by
  refine (toIntSS_any hb.1 (vII_get h).2 hb.each).mono ?_
  rintro e w' ⟨v, F, h1, h2, h3, h4⟩
  exact ⟨v, F, h1, h2, ⟨v, rfl, h3⟩, h4⟩
theorem eqIntSS_d {A A' : Option Addr} {c c' : Nat} {d d' : List (List Int)} {w : World} (hb : BSS d) (h : vII w [.slice A d.length c] d) (hb' : BSS d') (h' : vII w [.slice A' d'.length c'] d') :
    Calls Try.prog 25 #[.slice A d.length c, .slice A' d'.length c'] w fun e w' => e = .returned (.bool (decide (d = d'))) ∧ ∃ y, w' = ext w y :=
  eqIntSS_any (Nat.le_trans hb.1 (by omega)) (vII_get h).2 hb.big (Nat.le_trans hb'.1 (by omega)) (vII_get h').2 hb'.big
theorem mkI_tot {d : List (List Int)} (hb : BSS d) : (d.map fun x => x.length).sum ≤ 3000000 := by
  have := hb.2
  rw [sum_one]
  omega
theorem markIntSS_d {v : Value} {d : List (List Int)} {F : List Nat} {k0 : Int} {w : World} (hb : BSS d) (h : sII w [v] d F) (hN : F.Nodup) (h0 : 0 ≤ k0) (hk0 : k0 ≤ 90000000000) :
    Calls Try.prog 27 #[v, .int .i64 k0] w fun e w' => ∃ k', e = .returned (.int .i64 k') ∧ Hid ((mkN mkI k0 d).2 = k') ∧ k0 ≤ k' ∧ k' ≤ k0 + 3000000 ∧ sII w' [v] (mkN mkI k0 d).1 F ∧ Chg F w w' := by
  have hm := mkI_tot hb
  obtain ⟨v', e, h⟩ := h
  injection e with e
  subst e
  refine (markIntSS_any (Nat.le_trans hb.1 (by omega)) hb.big h hN h0 (by omega)).mono ?_
  rintro e w' ⟨h1, h2, h3⟩
  refine ⟨_, h1, Lib.hid rfl, ?_, ?_, ⟨_, rfl, h2⟩, h3⟩ <;> (rw [mkI_sum]; omega)
theorem heldIntSS_d {A : Option Addr} {c n : Nat} {d : List (List Int)} {k0 k' : Int} {w : World} (hb : BSS d) (hk : Hid ((mkN mkI k0 d).2 = k')) (h : vII w [.slice A n c] (mkN mkI k0 d).1) (h0 : 0 ≤ k0) (hk0 : k0 ≤ 90000000000) :
    Calls Try.prog 43 #[.slice A n c, .int .i64 k0] w fun e w' => e = .returned (.int .i64 k') ∧ ∃ y, w' = ext w y := by
  have hm := mkI_tot hb
  obtain ⟨hn, hv⟩ := vII_get h
  rw [mkN_length] at hn
  have := heldIntSS_any (c := c) hn.symm (by have := hb.1; omega) hb.big hv h0 (by omega)
  rw [hk.out] at this
  exact this
end Go.Proofs.Ytgnmpjjlclbieaa
namespace Go.Proofs.Ytgnmpjjlclbieaa
open Go.RowKit
theorem box3 {w : World} {B : Nat} {a b c : Value} (h : BoxAt w B #[a, b, c]) : B < w.heap.size ∧ w.cell? ⟨B, 0, none⟩ = some a ∧ w.cell? ⟨B, 1, none⟩ = some b ∧ w.cell? ⟨B, 2, none⟩ = some c ∧ ∀ j, w.frozen? ⟨B, j, none⟩ = false := ⟨h.1, h.2.1 0, h.2.1 1, h.2.1 2, h.2.2⟩
theorem BoxAt.setJ {w : World} {B j : Nat} {cs : Array Value} {u : Value} (h : BoxAt w B cs) (hj : j < cs.size) : BoxAt (w.setCell ⟨B, j, none⟩ u) B (cs.setIfInBounds j u) := by
  obtain ⟨h1, h2, h3⟩ := h
  have e := h2 j
  rw [Array.getElem?_eq_getElem hj] at e
  refine ⟨by simpa using h1, fun i => ?_, fun i => ?_⟩
  · by_cases hi : i = j
    · subst hi
      rw [Array.getElem?_setIfInBounds_self_of_lt hj]
      go_simp
    · rw [Array.getElem?_setIfInBounds_ne (by omega), ← h2 i]
      go_simp
  · go_simp
theorem BoxAt.set30 {w : World} {B : Nat} {a b c u : Value} (h : BoxAt w B #[a, b, c]) : BoxAt (w.setCell ⟨B, 0, none⟩ u) B #[u, b, c] := h.setJ (j := 0) (by simp)
theorem BoxAt.set31 {w : World} {B : Nat} {a b c u : Value} (h : BoxAt w B #[a, b, c]) : BoxAt (w.setCell ⟨B, 1, none⟩ u) B #[a, u, c] := h.setJ (j := 1) (by simp)
theorem BoxAt.set32 {w : World} {B : Nat} {a b c u : Value} (h : BoxAt w B #[a, b, c]) : BoxAt (w.setCell ⟨B, 2, none⟩ u) B #[a, b, u] := h.setJ (j := 2) (by simp)
theorem BoxAt.set3 {w : World} {B : Nat} {a b c u v x : Value} (h : BoxAt w B #[a, b, c]) : BoxAt (((w.setCell ⟨B, 0, none⟩ u).setCell ⟨B, 1, none⟩ v).setCell ⟨B, 2, none⟩ x) B #[u, v, x] := h.set30.set31.set32
theorem BoxAt.set3' {w : World} {B B' : Nat} {cs : Array Value} {u v x : Value} (h : BoxAt w B cs) (hne : B ≠ B') : BoxAt (((w.setCell ⟨B', 0, none⟩ u).setCell ⟨B', 1, none⟩ v).setCell ⟨B', 2, none⟩ x) B cs := ((h.setO hne).setO hne).setO hne
theorem sP_mk {α β : Type} {E0 : SE α} {E1 : SE β} {w : World} {u : Value} {cs : List Value} {d : α × β} {F0 F1 : List Nat} (h0 : E0 w [u] d.1 F0) (h1 : E1 w cs d.2 F1) : sP 1 E0 E1 w (u :: cs) d (F0 ++ F1) := ⟨[u], cs, F0, F1, rfl, rfl, h0, h1, rfl⟩
theorem bx2 {w : World} {B : Nat} {u v : Value} (h : BoxAt w B #[u, v]) : B < w.heap.size ∧ w.cell? ⟨B, 0, none⟩ = some u ∧ w.cell? ⟨B, 1, none⟩ = some v ∧ ∀ j, w.frozen? ⟨B, j, none⟩ = false := ⟨h.1, h.2.1 0, h.2.1 1, h.2.2⟩
end Go.Proofs.Ytgnmpjjlclbieaa
namespace Go.Proofs.Ytgnmpjjlclbieaa
open Go.RowKit
abbrev Rd := Int × List (List Int)
theorem szG_neg {α : Type} {f : Int → α → Int} : ∀ (xs : List α) (l : Int), 0 ≤ l → szG f l xs < 0 → szG f l xs = -1
  | [], l, h, k => by rw [szG] at k; omega
  | x :: xs, l, h, k => by
    rw [szG] at k ⊢
    split
    · rfl
    · rename_i h1
      rw [if_neg h1] at k
      exact szG_neg xs _ (by omega) k
abbrev vRel : VE Rd := vP 1 vI vII
abbrev sRel : SE Rd := sP 1 sI sII
theorem sRel_v {w : World} (c : List Value) (d : Rd) (F : List Nat) (h : sRel w c d F) : vRel w c d := sP_v sI_v sII_v c d F h
def QRel (d : Rd) : Prop := I64 d.1 ∧ QSS d.2
def BRel (d : Rd) : Prop := I64 d.1 ∧ BSS d.2
theorem szI_neg {l : Int} {d : List (List Int)} (h : szN szI l d < 0) : szN szI l d = -1 := by
  unfold szN at h ⊢
  split
  · rfl
  · rename_i h1
    rw [if_neg h1] at h
    exact szG_neg _ _ (by omega) h
theorem vRel_shape {w : World} {c : List Value} {d : Rd} (h : vRel w c d) : ∃ A a, c = [.int .i64 d.1, .slice A d.2.length a] := by
  obtain ⟨c0, c1, e0, h0, h1, A2, d2, rfl, k2⟩ := h
  simp only [vI] at h1
  subst h1
  exact ⟨_, _, e0⟩
theorem vRel_get {w : World} {A : Option Addr} {n c : Nat} {z : Int} {d : Rd} (h : vRel w [.int .i64 z, .slice A n c] d) : z = d.1 ∧ vII w [.slice A n c] d.2 := by
  obtain ⟨c0, c1, e0, h0, h1, A2, d2, rfl, k2⟩ := h
  simp only [vI] at h1
  subst h1
  simp only [List.cons_append, List.nil_append, List.cons.injEq, Value.slice.injEq, and_true, Value.int.injEq, true_and] at e0
  obtain ⟨q0, q1, q2, q3⟩ := e0
  subst q0 q1 q2 q3
  exact ⟨rfl, _, _, rfl, k2⟩
theorem szRelation_d {A : Option Addr} {c : Nat} {d : Rd} {left : Int} {w : World} (hq : QRel d) (h : vRel w [.int .i64 d.1, .slice A d.2.length c] d) (h1 : 0 ≤ left) (h2 : left ≤ 1000000000) :
    Calls Try.prog 5 #[.agg #[.int .i64 d.1, .slice A d.2.length c], .int .i64 left] w fun e w' => e = .returned (.int .i64 (szN szI left d.2)) ∧ ∃ y, w' = ext w y := by
  have r1 := (vRel_get h).2
  have q1 := hq.2
  obtain ⟨l1, hl1⟩ : ∃ l, szN szI left d.2 = l := ⟨_, rfl⟩
  have H1 := Lib.hid hl1
  have n1 : l1 < 0 → l1 = -1 := fun h => by rw [← hl1] at h ⊢; exact szI_neg h
  clear h hq hl1
  by_cases c1 : l1 < 0
  · have HN := Lib.hid (n1 c1)
    clear n1
    go_enter Try.func5, Try.ntmps5
    go_wp2_with (go_at_call 16; refine (szIntSS_d q1 (VD.toExt r1 (by refine x'z ?_; repeat (with_reducible (first | exact x'a _ _ | exact x'b _ | exact x'c (by assumption) | refine x'd ?_ (by assumption) | refine x'e ?_ _ | refine x'f ?_ _ | refine x'g ?_ | refine x'h ?_ ?_ _ | refine x'i ?_ _ | refine x'j ?_ | refine x'k ?_ _ | refine x'l ?_ _ _ | refine x'm ?_ | assumption | (refine x'n ?_; omega) | omega)))) h1 h2).mono ?_; rintro e w1 ⟨rfl, y1, rfl⟩; rw [H1.out])
    go_ret
    exact ⟨by rw [H1.out, HN.out]; rfl, (by refine x'z ?_; repeat (with_reducible (first | exact x'a _ _ | exact x'b _ | exact x'c (by assumption) | refine x'd ?_ (by assumption) | refine x'e ?_ _ | refine x'f ?_ _ | refine x'g ?_ | refine x'h ?_ ?_ _ | refine x'i ?_ _ | refine x'j ?_ | refine x'k ?_ _ | refine x'l ?_ _ _ | refine x'm ?_ | assumption | (refine x'n ?_; omega) | omega)))⟩
  · clear n1
    go_enter Try.func5, Try.ntmps5
    go_wp2_with (go_at_call 16; refine (szIntSS_d q1 (VD.toExt r1 (by refine x'z ?_; repeat (with_reducible (first | exact x'a _ _ | exact x'b _ | exact x'c (by assumption) | refine x'd ?_ (by assumption) | refine x'e ?_ _ | refine x'f ?_ _ | refine x'g ?_ | refine x'h ?_ ?_ _ | refine x'i ?_ _ | refine x'j ?_ | refine x'k ?_ _ | refine x'l ?_ _ _ | refine x'm ?_ | assumption | (refine x'n ?_; omega) | omega)))) h1 h2).mono ?_; rintro e w1 ⟨rfl, y1, rfl⟩; rw [H1.out])
    go_ret
    exact ⟨by rw [H1.out]; rfl, (by refine x'z ?_; repeat (with_reducible (first | exact x'a _ _ | exact x'b _ | exact x'c (by assumption) | refine x'd ?_ (by assumption) | refine x'e ?_ _ | refine x'f ?_ _ | refine x'g ?_ | refine x'h ?_ ?_ _ | refine x'i ?_ _ | refine x'j ?_ | refine x'k ?_ _ | refine x'l ?_ _ _ | refine x'm ?_ | assumption | (refine x'n ?_; omega) | omega)))⟩
theorem sRel_form {w : World} {v0 v1 : Value} {d : Rd} {F : List Nat} (h : sRel w [v0, v1] d F) : ∃ A c, v0 = .int .i64 d.1 ∧ v1 = .slice A d.2.length c ∧ sII w [v1] d.2 F := by
  obtain ⟨c0, c1, F0, F1, e0, h0, ⟨h1, f0⟩, h3, e4⟩ := h
  subst h1 f0 e4
  simp only [List.cons_append, List.nil_append, List.cons.injEq] at e0
  obtain ⟨rfl, rfl⟩ := e0
  obtain ⟨A, c, rfl⟩ := sII_form h3
  exact ⟨A, c, rfl, rfl, by simpa using h3⟩
theorem sRel_mk {w : World} {v1 : Value} {z : Int} {rows : List (List Int)} {F : List Nat} (h : sII w [v1] rows F) : sRel w [.int .i64 z, v1] (z, rows) F := by
  have := sP_mk (E0 := sI) (E1 := sII) (w := w) (u := .int .i64 z) (d := (z, rows)) ⟨rfl, rfl⟩ h
  simpa using this
set_option maxHeartbeats 1000000 in
theorem toRelation_d {A : Option Addr} {c : Nat} {d : Rd} {w : World} (hb : BRel d) (h : vRel w [.int .i64 d.1, .slice A d.2.length c] d) :
    Calls Try.prog 8 #[.agg #[.int .i64 d.1, .slice A d.2.length c]] w fun e w' => ∃ v0 v1 F, e = .returned (.agg #[v0, v1]) ∧ (∃ y, w' = ext w y) ∧ sRel w' [v0, v1] d F ∧ F.Nodup ∧ ∀ b ∈ F, w.heap.size ≤ b := by
  have r1 := (vRel_get h).2
  obtain ⟨_, q1⟩ := hb
  clear h
  go_enter Try.func8, Try.ntmps8
  go_upto_region 1 with fail
  refine wp_name ?_
  intro w0 hw0
  have hx0 : ∃ y, w0 = ext w y := by rw [hw0.out]; exact (by refine x'z ?_; repeat (with_reducible (first | exact x'a _ _ | exact x'b _ | exact x'c (by assumption) | refine x'd ?_ (by assumption) | refine x'e ?_ _ | refine x'f ?_ _ | refine x'g ?_ | refine x'h ?_ ?_ _ | refine x'i ?_ _ | refine x'j ?_ | refine x'k ?_ _ | refine x'l ?_ _ _ | refine x'm ?_ | assumption | (refine x'n ?_; omega) | omega)))
  have P0 : BoxAt w0 w.heap.size #[.int .i64 d.1, .slice A d.2.length c] := by rw [hw0.out]; exact (by repeat (with_reducible (first | assumption | exact BoxAt.new _ _ _ | apply BoxAt.set2 | refine BoxAt.set2' ?_ (by omega) | apply BoxAt.setP0 | apply BoxAt.setP1 | refine BoxAt.setO ?_ (by omega) | refine BoxAt.alloc ?_ _ | refine BoxAt.drew ?_ | refine BoxAt.toExt ?_ (by assumption))))
  have R0 : BoxAt w0 (w.heap.size + 1) #[.int .i64 0, .slice none 0 0] := by
    rw [hw0.out]
    simpa using BoxAt.new (w.alloc (.cells #[.int .i64 d.1, .slice A d.2.length c] 27)) #[.int .i64 0, .slice none 0 0] 36
  obtain ⟨l0, k0, k0', f0⟩ := bx2 P0
  obtain ⟨m0, n0, n0', g0⟩ := bx2 R0
  have hz0 := size_of_ext hx0
  clear hw0
  go_wp2_with (go_at_call 20; refine (toIntSS_d q1 (VD.toExt r1 (by refine x'z ?_; repeat (with_reducible (first | exact x'a _ _ | exact x'b _ | exact x'c (by assumption) | refine x'd ?_ (by assumption) | refine x'e ?_ _ | refine x'f ?_ _ | refine x'g ?_ | refine x'h ?_ ?_ _ | refine x'i ?_ _ | refine x'j ?_ | refine x'k ?_ _ | refine x'l ?_ _ _ | refine x'm ?_ | assumption | (refine x'n ?_; omega) | omega))))).mono ?_; rintro e w1 ⟨v1, F1, rfl, hx1, hS1, hN1, hF1⟩; obtain ⟨A1, c1, rfl⟩ := sII_form hS1; have R1 : BoxAt w1 (w.heap.size + 1) #[.int .i64 0, .slice none 0 0] := (by repeat (with_reducible (first | assumption | exact BoxAt.new _ _ _ | apply BoxAt.set2 | refine BoxAt.set2' ?_ (by omega) | apply BoxAt.setP0 | apply BoxAt.setP1 | refine BoxAt.setO ?_ (by omega) | refine BoxAt.alloc ?_ _ | refine BoxAt.drew ?_ | refine BoxAt.toExt ?_ (by assumption)))); have O1 : BoxAt w1 w0.heap.size #[.int .i64 d.1, .slice none 0 0] := (by repeat (with_reducible (first | assumption | exact BoxAt.new _ _ _ | apply BoxAt.set2 | refine BoxAt.set2' ?_ (by omega) | apply BoxAt.setP0 | apply BoxAt.setP1 | refine BoxAt.setO ?_ (by omega) | refine BoxAt.alloc ?_ _ | refine BoxAt.drew ?_ | refine BoxAt.toExt ?_ (by assumption)))); obtain ⟨m1, n1, n1', g1⟩ := bx2 O1; obtain ⟨o1, p1, p1', q1'⟩ := bx2 R1)
  have hz1 := size_of_ext hx1
  simp only [World.size_alloc] at hz1 hF1
  refine bodyPost_ret (v := .agg #[.int .i64 d.1, .slice A1 d.2.length c1]) (by simp [results, Try.results8, go_sem, *]) rfl ⟨_, _, F1, rfl, (by refine x'z ?_; repeat (with_reducible (first | exact x'a _ _ | exact x'b _ | exact x'c (by assumption) | refine x'd ?_ (by assumption) | refine x'e ?_ _ | refine x'f ?_ _ | refine x'g ?_ | refine x'h ?_ ?_ _ | refine x'i ?_ _ | refine x'j ?_ | refine x'k ?_ _ | refine x'l ?_ _ _ | refine x'm ?_ | assumption | (refine x'n ?_; omega) | omega))), sRel_mk (OD.chg (G := [w0.heap.size, w.heap.size + 1]) hS1 (by repeat (with_reducible (first | exact Chg.refl _ _ | refine Chg.trans0 ?_ (by assumption) | refine Chg.extS ?_ _ | refine Chg.alloc ?_ _ | refine Chg.drew ?_ | refine Chg.setCell ?_ (.inl (by simp)) _))) ?_), hN1, ?_⟩
  · intro b hb h
    have := hF1 b hb
    simp at h
    omega
  · intro b hb
    have := hF1 b hb
    omega
set_option maxHeartbeats 1000000 in
theorem eqRelation_d {A A' : Option Addr} {c c' : Nat} {d d' : Rd} {w : World} (hb : BRel d) (h : vRel w [.int .i64 d.1, .slice A d.2.length c] d) (hb' : BRel d') (h' : vRel w [.int .i64 d'.1, .slice A' d'.2.length c'] d') :
    Calls Try.prog 11 #[.agg #[.int .i64 d.1, .slice A d.2.length c], .agg #[.int .i64 d'.1, .slice A' d'.2.length c']] w fun e w' => e = .returned (.bool (decide (d = d'))) ∧ ∃ y, w' = ext w y := by
  have r1 := (vRel_get h).2
  have s1 := (vRel_get h').2
  have b1 := hb.2
  have p1 := hb'.2
  have HD := Lib.hid (show decide (d = d') = (decide (d.1 = d'.1) && decide (d.2 = d'.2)) by
    rw [Bool.eq_iff_iff]
    simp [Prod.ext_iff])
  obtain ⟨t1, ht1⟩ : ∃ t, decide (d.1 = d'.1) = t := ⟨_, rfl⟩
  obtain ⟨t2, ht2⟩ : ∃ t, decide (d.2 = d'.2) = t := ⟨_, rfl⟩
  have D2 := Lib.hid ht2
  have hq : (d.1 != d'.1) = !t1 := by rw [← ht1]; by_cases q : d.1 = d'.1 <;> simp [q]
  have HE := Lib.hid (show decide (d = d') = (t1 && t2) by rw [HD.out, ht1, ht2])
  clear h h' hb hb' ht1 ht2 HD
  cases t1 <;> cases t2
  all_goals
    go_enter Try.func11, Try.ntmps11
    go_upto_region 1 with fail
    refine wp_name ?_
    intro W hW
    have xW : ∃ y, W = ext w y := by rw [hW.out]; exact (by refine x'z ?_; repeat (with_reducible (first | exact x'a _ _ | exact x'b _ | exact x'c (by assumption) | refine x'd ?_ (by assumption) | refine x'e ?_ _ | refine x'f ?_ _ | refine x'g ?_ | refine x'h ?_ ?_ _ | refine x'i ?_ _ | refine x'j ?_ | refine x'k ?_ _ | refine x'l ?_ _ _ | refine x'm ?_ | assumption | (refine x'n ?_; omega) | omega)))
    have BW0 : BoxAt W (w.heap.size) #[.int .i64 d.1, .slice A d.2.length c] := by rw [hW.out]; refine ⟨?_, fun j => ?_, fun j => ?_⟩ <;> go_simp
    obtain ⟨lW0, bW0, fW0⟩ := BW0
    have cW0_0 : W.cell? ⟨w.heap.size, 0, none⟩ = some (.int .i64 d.1) := bW0 0
    have cW0_1 : W.cell? ⟨w.heap.size, 1, none⟩ = some (.slice A d.2.length c) := bW0 1
    have BW1 : BoxAt W (w.heap.size + 1) #[.int .i64 d'.1, .slice A' d'.2.length c'] := by rw [hW.out]; refine ⟨?_, fun j => ?_, fun j => ?_⟩ <;> go_simp
    obtain ⟨lW1, bW1, fW1⟩ := BW1
    have cW1_0 : W.cell? ⟨w.heap.size + 1, 0, none⟩ = some (.int .i64 d'.1) := bW1 0
    have cW1_1 : W.cell? ⟨w.heap.size + 1, 1, none⟩ = some (.slice A' d'.2.length c') := bW1 1
    clear hW
    go_wp2_with (go_at_call 25; refine (eqIntSS_d b1 (VD.toExt r1 (by refine x'z ?_; repeat (with_reducible (first | exact x'a _ _ | exact x'b _ | exact x'c (by assumption) | refine x'd ?_ (by assumption) | refine x'e ?_ _ | refine x'f ?_ _ | refine x'g ?_ | refine x'h ?_ ?_ _ | refine x'i ?_ _ | refine x'j ?_ | refine x'k ?_ _ | refine x'l ?_ _ _ | refine x'm ?_ | assumption | (refine x'n ?_; omega) | omega)))) p1 (VD.toExt s1 (by refine x'z ?_; repeat (with_reducible (first | exact x'a _ _ | exact x'b _ | exact x'c (by assumption) | refine x'd ?_ (by assumption) | refine x'e ?_ _ | refine x'f ?_ _ | refine x'g ?_ | refine x'h ?_ ?_ _ | refine x'i ?_ _ | refine x'j ?_ | refine x'k ?_ _ | refine x'l ?_ _ _ | refine x'm ?_ | assumption | (refine x'n ?_; omega) | omega))))).mono ?_; rintro e w1 ⟨rfl, hx1⟩; rw [D2.out])
    go_ret
    exact ⟨by rw [HE.out]; rfl, (by refine x'z ?_; repeat (with_reducible (first | exact x'a _ _ | exact x'b _ | exact x'c (by assumption) | refine x'd ?_ (by assumption) | refine x'e ?_ _ | refine x'f ?_ _ | refine x'g ?_ | refine x'h ?_ ?_ _ | refine x'i ?_ _ | refine x'j ?_ | refine x'k ?_ _ | refine x'l ?_ _ _ | refine x'm ?_ | assumption | (refine x'n ?_; omega) | omega)))⟩
end Go.Proofs.Ytgnmpjjlclbieaa
namespace Go.Proofs.Ytgnmpjjlclbieaa
open Go.RowKit
def cmpI (a b : Int) : Int := if a < b then -1 else if b < a then 1 else 0
def cmpL : List Int → List Int → Int
  | [], [] => 0
  | [], _ :: _ => -1
  | _ :: _, [] => 1
  | x :: xs, y :: ys => if x = y then cmpL xs ys else cmpI x y
theorem cmpI_zero {a b : Int} : cmpI a b = 0 ↔ a = b := by unfold cmpI; split <;> (try split) <;> omega
theorem cmpL_zero : ∀ {xs ys : List Int}, cmpL xs ys = 0 ↔ xs = ys
  | [], [] => by simp [cmpL]
  | [], _ :: _ => by simp [cmpL]
  | _ :: _, [] => by simp [cmpL]
  | x :: xs, y :: ys => by
    rw [cmpL]
    split
    · rename_i h
      subst h
      rw [cmpL_zero]
      simp
    · rename_i h
      rw [cmpI_zero]
      simp [h]
theorem cmpL_bd : ∀ (xs ys : List Int), -1 ≤ cmpL xs ys ∧ cmpL xs ys ≤ 1
  | [], [] => by simp [cmpL]
  | [], _ :: _ => by simp [cmpL]
  | _ :: _, [] => by simp [cmpL]
  | x :: xs, y :: ys => by
    rw [cmpL]
    split
    · exact cmpL_bd xs ys
    · unfold cmpI; split <;> (try split) <;> omega
theorem cmpL_step {xs ys : List Int} {k : Nat} (h : k < xs.length) (h' : k < ys.length) (e : xs[k] = ys[k]) : cmpL (xs.drop k) (ys.drop k) = cmpL (xs.drop (k + 1)) (ys.drop (k + 1)) := by
  rw [List.drop_eq_getElem_cons h, List.drop_eq_getElem_cons h', cmpL, if_pos e]
theorem cmpL_stop {xs ys : List Int} {k : Nat} (h : k < xs.length) (h' : k < ys.length) (e : ¬ xs[k] = ys[k]) : cmpL (xs.drop k) (ys.drop k) = cmpI xs[k] ys[k] := by
  rw [List.drop_eq_getElem_cons h, List.drop_eq_getElem_cons h', cmpL, if_neg e]
theorem cmpL_end {xs ys : List Int} {k : Nat} (hx : k ≤ xs.length) (hy : k ≤ ys.length) (h : ¬ (k < xs.length ∧ k < ys.length)) : cmpL (xs.drop k) (ys.drop k) = cmpI xs.length ys.length := by
  by_cases h1 : k < xs.length
  · have h2 : ys.length ≤ k := by omega
    rw [List.drop_eq_getElem_cons h1, List.drop_eq_nil_of_le h2, cmpL]
    unfold cmpI
    rw [if_neg (by omega), if_pos (by omega)]
  · rw [List.drop_eq_nil_of_le (show xs.length ≤ k by omega)]
    by_cases h2 : k < ys.length
    · rw [List.drop_eq_getElem_cons h2, cmpL]
      unfold cmpI
      rw [if_pos (by omega)]
    · rw [List.drop_eq_nil_of_le (show ys.length ≤ k by omega), cmpL]
      unfold cmpI
      rw [if_neg (by omega), if_neg (by omega)]
set_option maxHeartbeats 1000000 in
theorem specCompareRows_any {A A' : Option Addr} {c c' : Nat} {xs ys : List Int} {w : World} (hx : xs.length ≤ 1000000000) (h1 : RI w A xs) (hy : ys.length ≤ 1000000000) (h2 : RI w A' ys) :
    Calls Try.prog 46 #[.slice A xs.length c, .slice A' ys.length c'] w fun e w' => e = .returned (.int .i64 (cmpL xs ys)) ∧ ∃ y, w' = ext w y := by
  go_enter Try.func46, Try.ntmps46
  go_wp2
  go_loopw [5] (fun i wr => ∃ k : Nat, i = .int .i64 k ∧ k ≤ xs.length ∧ k ≤ ys.length ∧ cmpL (xs.drop k) (ys.drop k) = cmpL xs ys ∧ ∃ y, wr = ext w y) (fun i _ => xs.length - (intOf i).toNat)
  case atStart => exact ⟨0, rfl, by omega, by omega, by simp, refl_ext w⟩
  case round =>
    obtain ⟨k, rfl, hk, hk2, ht, hw⟩ := hrel
    have Ht := Lib.hid ht
    clear ht
    by_cases hlt : k < xs.length
    · by_cases hlt2 : k < ys.length
      · obtain ⟨b, o, rfl, hb, hc⟩ := (h1.toExt hw).atI hlt
        obtain ⟨b', o', rfl, hb', hc'⟩ := (h2.toExt hw).atI hlt2
        by_cases he : xs[k] = ys[k]
        · have He := Lib.hid ((cmpL_step hlt hlt2 he).symm.trans Ht.out)
          have q1 : ¬ xs[k] < ys[k] := by omega
          have q2 : ¬ ys[k] < xs[k] := by omega
          clear he
          go_wp2
          refine wp_region_ext (by kernel_rfl) (by kernel_rfl) ?_
          repeat (go_big_quiet_step (fail))
          refine wpQuiet_nil ?_
          rintro _ ⟨z, rfl⟩
          have hb2 := lt_ext (x := z) hb
          have hb3 := lt_ext (x := z) hb'
          go_wp2
          refine wp_region_ext (by kernel_rfl) (by kernel_rfl) ?_
          repeat (go_big_quiet_step (fail))
          refine wpQuiet_nil ?_
          rintro _ ⟨z2, rfl⟩
          go_wp2
          exact ⟨⟨k + 1, by go_num, by omega, by omega, He.out, (by refine x'z ?_; repeat (with_reducible (first | exact x'a _ _ | exact x'b _ | exact x'c (by assumption) | refine x'd ?_ (by assumption) | refine x'e ?_ _ | refine x'f ?_ _ | refine x'g ?_ | refine x'h ?_ ?_ _ | refine x'i ?_ _ | refine x'j ?_ | refine x'k ?_ _ | refine x'l ?_ _ _ | refine x'm ?_ | assumption | (refine x'n ?_; omega) | omega)))⟩, by simp [intOf]; omega⟩
        · have He := Lib.hid ((cmpL_stop hlt hlt2 he).symm.trans Ht.out)
          by_cases q1 : xs[k] < ys[k]
          · have HE := Lib.hid (show cmpL xs ys = -1 by rw [← He.out]; unfold cmpI; rw [if_pos q1])
            clear he
            go_wp2
            refine wp_region_ext (by kernel_rfl) (by kernel_rfl) ?_
            repeat (go_big_quiet_step (fail))
            refine wpQuiet_nil ?_
            rintro _ ⟨z, rfl⟩
            go_wp2
            go_ret
            exact ⟨by rw [HE.out]; rfl, (by refine x'z ?_; repeat (with_reducible (first | exact x'a _ _ | exact x'b _ | exact x'c (by assumption) | refine x'd ?_ (by assumption) | refine x'e ?_ _ | refine x'f ?_ _ | refine x'g ?_ | refine x'h ?_ ?_ _ | refine x'i ?_ _ | refine x'j ?_ | refine x'k ?_ _ | refine x'l ?_ _ _ | refine x'm ?_ | assumption | (refine x'n ?_; omega) | omega)))⟩
          · have q2 : ys[k] < xs[k] := by omega
            have HE := Lib.hid (show cmpL xs ys = 1 by rw [← He.out]; unfold cmpI; rw [if_neg q1, if_pos q2])
            clear he
            go_wp2
            refine wp_region_ext (by kernel_rfl) (by kernel_rfl) ?_
            repeat (go_big_quiet_step (fail))
            refine wpQuiet_nil ?_
            rintro _ ⟨z, rfl⟩
            have hb2 := lt_ext (x := z) hb
            have hb3 := lt_ext (x := z) hb'
            go_wp2
            refine wp_region_ext (by kernel_rfl) (by kernel_rfl) ?_
            repeat (go_big_quiet_step (fail))
            refine wpQuiet_nil ?_
            rintro _ ⟨z2, rfl⟩
            go_wp2
            go_ret
            exact ⟨by rw [HE.out]; rfl, (by refine x'z ?_; repeat (with_reducible (first | exact x'a _ _ | exact x'b _ | exact x'c (by assumption) | refine x'd ?_ (by assumption) | refine x'e ?_ _ | refine x'f ?_ _ | refine x'g ?_ | refine x'h ?_ ?_ _ | refine x'i ?_ _ | refine x'j ?_ | refine x'k ?_ _ | refine x'l ?_ _ _ | refine x'm ?_ | assumption | (refine x'n ?_; omega) | omega)))⟩
      · have He := Lib.hid ((cmpL_end hk hk2 (by omega)).symm.trans Ht.out)
        have HE := Lib.hid (show cmpL xs ys = 1 by rw [← He.out]; unfold cmpI; rw [if_neg (by omega), if_pos (by omega)])
        have q1 : ¬ (xs.length : Int) < ys.length := by omega
        have q2 : (ys.length : Int) < xs.length := by omega
        go_wp2
        go_ret
        exact ⟨by rw [HE.out]; rfl, hw⟩
    · have He := Lib.hid ((cmpL_end hk hk2 (by omega)).symm.trans Ht.out)
      by_cases hlt2 : k < ys.length
      · have HE := Lib.hid (show cmpL xs ys = -1 by rw [← He.out]; unfold cmpI; rw [if_pos (by omega)])
        have q1 : (xs.length : Int) < ys.length := by omega
        go_wp2
        go_ret
        exact ⟨by rw [HE.out]; rfl, hw⟩
      · have HE := Lib.hid (show cmpL xs ys = 0 by rw [← He.out]; unfold cmpI; rw [if_neg (by omega), if_neg (by omega)])
        have q1 : ¬ (xs.length : Int) < ys.length := by omega
        have q2 : ¬ (ys.length : Int) < xs.length := by omega
        go_wp2
        go_ret
        exact ⟨by rw [HE.out]; rfl, hw⟩
end Go.Proofs.Ytgnmpjjlclbieaa
namespace Go.Proofs.Ytgnmpjjlclbieaa
open Go.RowKit
theorem quietEj {P : Program} {f : FuncId} {args : Array Value} {w y : World} {m n : Int}
    (h : Calls P f args (ext w y) fun e w' => e = .returned (.int .i64 m) ∧ ∃ z, w' = ext (ext w y) z) (hc : m = n) : Calls P f args (ext w y) fun e w' => e = .returned (.int .i64 n) ∧ ∃ z, w' = ext w z := by
  subst hc; exact quietE h
end Go.Proofs.Ytgnmpjjlclbieaa
namespace Go.Proofs.Ytgnmpjjlclbieaa
open Go.ChangeShapes Go.WideShapes Go.ChangeAt Go.RowKit
def inB (x a b : Int) : Bool := decide (a ≤ x ∧ x ≤ b)
theorem inB_t {x a b : Int} (h : inB x a b = true) : a ≤ x ∧ x ≤ b := by simpa [inB] using h
theorem within_any (x a b : Int) (w : World) : Calls Try.prog 51 #[.int .i64 x, .int .i64 a, .int .i64 b] w fun e w' => e = .returned (.bool (inB x a b)) ∧ w = w' := by
  unfold inB
  by_cases h1 : a ≤ x <;> by_cases h2 : x ≤ b <;> (go_enter Try.func51, Try.ntmps51; go_wp2; go_ret; exact ⟨by simp [h1, h2], rfl⟩)
theorem l1In_any (x a b : Int) (w : World) : Calls Try.prog 44 #[.int .i64 x, .int .i64 a, .int .i64 b] w fun e w' => e = .returned (.bool (inB x a b)) ∧ w = w' := by
  unfold inB
  by_cases h1 : a ≤ x <;> by_cases h2 : x ≤ b <;> (go_enter Try.func44, Try.ntmps44; go_wp2; go_ret; exact ⟨by simp [h1, h2], rfl⟩)
end Go.Proofs.Ytgnmpjjlclbieaa
namespace Go.Proofs.Ytgnmpjjlclbieaa
open Go.RowKit
def rowV (xs : List Int) : Bool := xs.all fun v => inB v 0 99
def allN (p : Nat → Bool) : Nat → Nat → Bool
  | 0, _ => true
  | f + 1, k => p k && allN p f (k + 1)
theorem allN_step {p : Nat → Bool} {n k : Nat} (h : k < n) : allN p (n - k) k = (p k && allN p (n - (k + 1)) (k + 1)) := by
  rw [show n - k = (n - (k + 1)) + 1 by omega, allN]
theorem allN_end {p : Nat → Bool} {n k : Nat} (h : ¬ k < n) : allN p (n - k) k = true := by
  rw [show n - k = 0 by omega, allN]
def rowOk (a : Int) (rows : List (List Int)) (i : Nat) : Bool := decide (((rows.getD i []).length : Int) = a) && rowV (rows.getD i []) && (decide (i = 0) || decide (cmpL (rows.getD (i - 1) []) (rows.getD i []) < 0))
def rowsB (a : Int) (rows : List (List Int)) : Bool := inB a 0 5 && decide (rows.length ≤ 4000) && allN (rowOk a rows) rows.length 0
theorem allR_step {p : Int → Bool} {xs : List Int} {k : Nat} (h : k < xs.length) : (xs.drop k).all p = (p xs[k] && (xs.drop (k + 1)).all p) := by
  rw [List.drop_eq_getElem_cons h, List.all_cons]
theorem allR_end {p : Int → Bool} {xs : List Int} {k : Nat} (h : ¬ k < xs.length) : (xs.drop k).all p = true := by
  rw [List.drop_eq_nil_of_le (by omega)]; rfl
set_option maxHeartbeats 400000 in
theorem AreValidValues_any {A : Option Addr} {c : Nat} {xs : List Int} {w : World} (hx : xs.length ≤ 1000000000) (h1 : RI w A xs) :
    Calls Try.prog 52 #[.slice A xs.length c] w fun e w' => e = .returned (.bool (rowV xs)) ∧ w = w' := by
  go_enter Try.func52, Try.ntmps52
  go_wp2
  go_loop [7] (fun i => ∃ k : Nat, i = .int .i64 k ∧ k ≤ xs.length ∧ Hid ((xs.drop k).all (fun v => inB v 0 99) = rowV xs)) (fun i => xs.length - (intOf i).toNat)
  case atStart => exact ⟨0, rfl, by omega, Lib.hid rfl⟩
  case round =>
    obtain ⟨k, rfl, hk, Hj⟩ := hrel
    by_cases hlt : k < xs.length
    · obtain ⟨b, o, rfl, hb, hc⟩ := h1.atI hlt
      have e := Hj.out
      rw [allR_step hlt] at e
      obtain ⟨t, ht⟩ : ∃ t, inB xs[k] 0 99 = t := ⟨_, rfl⟩
      rw [ht] at e
      have NT := Lib.hid ht
      have He := Lib.hid e
      clear e ht Hj
      cases t with
      | true =>
        go_wp2_with (go_at_call 51; refine (within_any _ _ _ _).mono ?_; rintro e w' ⟨rfl, rfl⟩; rw [NT.out])
        exact ⟨⟨k + 1, by go_num, by omega, Lib.hid (by simpa using He.out)⟩, by simp [intOf]; omega⟩
      | false =>
        go_wp2_with (go_at_call 51; refine (within_any _ _ _ _).mono ?_; rintro e w' ⟨rfl, rfl⟩; rw [NT.out])
        go_ret
        exact ⟨by rw [← He.out]; rfl, rfl⟩
    · have e := Hj.out
      rw [allR_end hlt] at e
      have He := Lib.hid e
      clear e Hj
      go_wp2
      go_ret
      exact ⟨by rw [← He.out]; rfl, rfl⟩
set_option maxHeartbeats 400000 in
theorem specAreValidValues_any {A : Option Addr} {c : Nat} {xs : List Int} {w : World} (hx : xs.length ≤ 1000000000) (h1 : RI w A xs) :
    Calls Try.prog 45 #[.slice A xs.length c] w fun e w' => e = .returned (.bool (rowV xs)) ∧ w = w' := by
  go_enter Try.func45, Try.ntmps45
  go_wp2
  go_loop [3] (fun i => ∃ k : Nat, i = .int .i64 k ∧ k ≤ xs.length ∧ Hid ((xs.drop k).all (fun v => inB v 0 99) = rowV xs)) (fun i => xs.length - (intOf i).toNat)
  case atStart => exact ⟨0, rfl, by omega, Lib.hid rfl⟩
  case round =>
    obtain ⟨k, rfl, hk, Hj⟩ := hrel
    by_cases hlt : k < xs.length
    · obtain ⟨b, o, rfl, hb, hc⟩ := h1.atI hlt
      have e := Hj.out
      rw [allR_step hlt] at e
      obtain ⟨t, ht⟩ : ∃ t, inB xs[k] 0 99 = t := ⟨_, rfl⟩
      rw [ht] at e
      have NT := Lib.hid ht
      have He := Lib.hid e
      clear e ht Hj
      cases t with
      | true =>
        go_wp2_with (go_at_call 44; refine (l1In_any _ _ _ _).mono ?_; rintro e w' ⟨rfl, rfl⟩; rw [NT.out])
        exact ⟨⟨k + 1, by go_num, by omega, Lib.hid (by simpa using He.out)⟩, by simp [intOf]; omega⟩
      | false =>
        go_wp2_with (go_at_call 44; refine (l1In_any _ _ _ _).mono ?_; rintro e w' ⟨rfl, rfl⟩; rw [NT.out])
        go_ret
        exact ⟨by rw [← He.out]; rfl, rfl⟩
    · have e := Hj.out
      rw [allR_end hlt] at e
      have He := Lib.hid e
      clear e Hj
      go_wp2
      go_ret
      exact ⟨by rw [← He.out]; rfl, rfl⟩
theorem compareInts_any (a b : Int) (w : World) : Calls Try.prog 54 #[.int .i64 a, .int .i64 b] w fun e w' => e = .returned (.int .i64 (cmpI a b)) ∧ w = w' := by
  by_cases h1 : a < b
  · have HE := Lib.hid (show cmpI a b = -1 by unfold cmpI; rw [if_pos h1])
    go_enter Try.func54, Try.ntmps54
    go_wp2
    go_ret
    exact ⟨by rw [HE.out]; rfl, rfl⟩
  · by_cases h2 : b < a
    · have HE := Lib.hid (show cmpI a b = 1 by unfold cmpI; rw [if_neg h1, if_pos h2])
      go_enter Try.func54, Try.ntmps54
      go_wp2
      go_ret
      exact ⟨by rw [HE.out]; rfl, rfl⟩
    · have HE := Lib.hid (show cmpI a b = 0 by unfold cmpI; rw [if_neg h1, if_neg h2])
      go_enter Try.func54, Try.ntmps54
      go_wp2
      go_ret
      exact ⟨by rw [HE.out]; rfl, rfl⟩
theorem quietSj {P : Program} {f : FuncId} {args : Array Value} {w y : World} {m n : Int}
    (h : Calls P f args (ext w y) fun e w' => e = .returned (.int .i64 m) ∧ ext w y = w') (hc : m = n) : Calls P f args (ext w y) fun e w' => e = .returned (.int .i64 n) ∧ ∃ z, w' = ext w z := by
  subst hc; exact quietS h
set_option maxHeartbeats 1000000 in
theorem CompareRows_any {A A' : Option Addr} {c c' : Nat} {xs ys : List Int} {w : World} (hx : xs.length ≤ 1000000000) (h1 : RI w A xs) (hy : ys.length ≤ 1000000000) (h2 : RI w A' ys) :
    Calls Try.prog 53 #[.slice A xs.length c, .slice A' ys.length c'] w fun e w' => e = .returned (.int .i64 (cmpL xs ys)) ∧ ∃ y, w' = ext w y := by
  go_enter Try.func53, Try.ntmps53
  go_wp2
  go_loopw [5] (fun i wr => ∃ k : Nat, i = .int .i64 k ∧ k ≤ xs.length ∧ k ≤ ys.length ∧ Hid (cmpL (xs.drop k) (ys.drop k) = cmpL xs ys) ∧ ∃ y, wr = ext w y) (fun i _ => xs.length - (intOf i).toNat)
  case atStart => exact ⟨0, rfl, by omega, by omega, Lib.hid (by simp), refl_ext w⟩
  case round =>
    obtain ⟨k, rfl, hk, hk2, Ht, hw⟩ := hrel
    by_cases hlt : k < xs.length
    · by_cases hlt2 : k < ys.length
      · obtain ⟨b, o, rfl, hb, hc⟩ := (h1.toExt hw).atI hlt
        obtain ⟨b', o', rfl, hb', hc'⟩ := (h2.toExt hw).atI hlt2
        by_cases he : xs[k] = ys[k]
        · have He := Lib.hid ((cmpL_step hlt hlt2 he).symm.trans Ht.out)
          have hq : (xs[k] != ys[k]) = false := by simp [he]
          clear he Ht
          go_wp2
          refine wp_region_ext (by kernel_rfl) (by kernel_rfl) ?_
          repeat (go_big_quiet_step (fail))
          refine wpQuiet_nil ?_
          rintro _ ⟨z, rfl⟩
          go_wp2
          exact ⟨⟨k + 1, by go_num, by omega, by omega, He, (by refine x'z ?_; repeat (with_reducible (first | exact x'a _ _ | exact x'b _ | exact x'c (by assumption) | refine x'd ?_ (by assumption) | refine x'e ?_ _ | refine x'f ?_ _ | refine x'g ?_ | refine x'h ?_ ?_ _ | refine x'i ?_ _ | refine x'j ?_ | refine x'k ?_ _ | refine x'l ?_ _ _ | refine x'm ?_ | assumption | (refine x'n ?_; omega) | omega)))⟩, by simp [intOf]; omega⟩
        · have He := Lib.hid ((cmpL_stop hlt hlt2 he).symm.trans Ht.out)
          have hq : (xs[k] != ys[k]) = true := by simp [he]
          clear he Ht
          go_wp2
          refine wp_region_ext (by kernel_rfl) (by kernel_rfl) ?_
          repeat (go_big_quiet_step (fail))
          refine wpQuiet_nil ?_
          rintro _ ⟨z, rfl⟩
          have hb2 := lt_ext (x := z) hb
          have hb3 := lt_ext (x := z) hb'
          go_wp2
          refine wp_region_ext (by kernel_rfl) (by kernel_rfl) ?_
          repeat (go_big_quiet_step ((go_at_call 54; exact quietSj (compareInts_any _ _ _) He.out)))
          refine wpQuiet_nil ?_
          rintro _ ⟨z2, rfl⟩
          go_wp2
          go_ret
          exact ⟨rfl, (by refine x'z ?_; repeat (with_reducible (first | exact x'a _ _ | exact x'b _ | exact x'c (by assumption) | refine x'd ?_ (by assumption) | refine x'e ?_ _ | refine x'f ?_ _ | refine x'g ?_ | refine x'h ?_ ?_ _ | refine x'i ?_ _ | refine x'j ?_ | refine x'k ?_ _ | refine x'l ?_ _ _ | refine x'm ?_ | assumption | (refine x'n ?_; omega) | omega)))⟩
      · have He := Lib.hid ((cmpL_end hk hk2 (by omega)).symm.trans Ht.out)
        clear Ht
        go_wp2_with (go_at_call 54; refine (compareInts_any _ _ _).mono ?_; rintro e w' ⟨rfl, rfl⟩; rw [He.out])
        go_ret
        exact ⟨rfl, hw⟩
    · have He := Lib.hid ((cmpL_end hk hk2 (by omega)).symm.trans Ht.out)
      clear Ht
      go_wp2_with (go_at_call 54; refine (compareInts_any _ _ _).mono ?_; rintro e w' ⟨rfl, rfl⟩; rw [He.out])
      go_ret
      exact ⟨rfl, hw⟩
theorem RV.atV' {w : World} {b o : Nat} {d : List (List Int)} (h : RII w (some ⟨b, o, none⟩) d) {k : Nat} (hk : k < d.length) : b < w.heap.size ∧ ∃ A' c', w.cell? ⟨b, o + k, none⟩ = some (.slice A' (d.getD k []).length c') ∧ RI w A' (d.getD k []) := by
  obtain ⟨b', o', A', c', e, h1, h2, h3⟩ := h.atV hk
  injection e with e
  injection e with e1 e2 _
  subst e1 e2
  have eg : d.getD k [] = d[k] := by rw [List.getD_eq_getElem?_getD, List.getElem?_eq_getElem hk]; rfl
  rw [eg]
  exact ⟨h1, A', c', h2, h3⟩
theorem RV.pl {w : World} {α : Type} {size : Nat} {E : VE α} {A : Option Addr} {d : List α} (h : RV size E w A d) (hk : 0 < d.length) : ∃ b o, A = some ⟨b, o, none⟩ := by
  obtain ⟨b, o, e, _⟩ := h (by intro e; rw [e] at hk; simp at hk)
  exact ⟨b, o, e⟩
theorem rows_f {a : Int} {rows : List (List Int)} (h : allN (rowOk a rows) rows.length 0 = false) : rowsB a rows = false := by unfold rowsB; rw [h, Bool.and_false]
set_option maxRecDepth 100000 in
set_option maxHeartbeats 8000000 in
theorem rowsValid_any {a : Int} {A : Option Addr} {c : Nat} {rows : List (List Int)} {w : World} (hx : rows.length ≤ 1000000000) (hxl : ∀ j, (rows.getD j []).length ≤ 1000000000) (h1 : RII w A rows) :
    Calls Try.prog 48 #[.int .i64 a, .slice A rows.length c] w fun e w' => e = .returned (.bool (rowsB a rows)) ∧ ∃ y, w' = ext w y := by
  have HL := Lib.hid hxl
  clear hxl
  obtain ⟨t1, ht1⟩ : ∃ t, inB a 0 5 = t := ⟨_, rfl⟩
  have N1 := Lib.hid ht1
  have HE := Lib.hid (show rowsB a rows = (t1 && decide (rows.length ≤ 4000) && allN (rowOk a rows) rows.length 0) by unfold rowsB; rw [ht1])
  clear ht1
  cases t1 with
  | false =>
    go_enter Try.func48, Try.ntmps48
    go_wp2_with (go_at_call 51; refine (within_any _ _ _ _).mono ?_; rintro e w' ⟨rfl, rfl⟩; rw [N1.out])
    go_ret
    exact ⟨by rw [HE.out]; rfl, refl_ext w⟩
  | true =>
    by_cases h4 : rows.length ≤ 4000
    · have HE2 := Lib.hid (show rowsB a rows = allN (rowOk a rows) rows.length 0 by rw [HE.out, decide_eq_true h4]; simp)
      go_enter Try.func48, Try.ntmps48
      go_wp2_with (go_at_call 51; refine (within_any _ _ _ _).mono ?_; rintro e w' ⟨rfl, rfl⟩; rw [N1.out])
      go_loopw [17] (fun i wr => ∃ k : Nat, i = .int .i64 k ∧ k ≤ rows.length ∧ (∃ y, wr = ext w y) ∧ Hid (allN (rowOk a rows) (rows.length - k) k = allN (rowOk a rows) rows.length 0)) (fun i _ => rows.length - (intOf i).toNat)
      case atStart => exact ⟨0, rfl, by omega, refl_ext w, Lib.hid rfl⟩
      case round =>
        obtain ⟨k, rfl, hk, hy, Hj⟩ := hrel
        by_cases hlt : k < rows.length
        · obtain ⟨b, o, rfl⟩ := h1.pl (by omega)
          obtain ⟨hb, A1, c1, hc, hv⟩ := (h1.toExt hy).atV' hlt
          have e := Hj.out
          rw [allN_step hlt] at e
          obtain ⟨r, hr⟩ : ∃ r, rows.getD k [] = r := ⟨_, rfl⟩
          have lr := HL.out k
          rw [hr] at hc hv lr
          obtain ⟨t3, ht3⟩ : ∃ t, decide ((r.length : Int) = a) = t := ⟨_, rfl⟩
          obtain ⟨t4, ht4⟩ : ∃ t, rowV r = t := ⟨_, rfl⟩
          have q3 : ((r.length : Int) != a) = !t3 := by rw [← ht3]; by_cases q : (r.length : Int) = a <;> simp [q]
          have eR : rowOk a rows k = (t3 && t4 && (decide (k = 0) || decide (cmpL (rows.getD (k - 1) []) r < 0))) := by unfold rowOk; rw [hr, ht3, ht4]
          rw [eR] at e
          have N4 := Lib.hid ht4
          clear hr ht3 ht4 eR Hj
          cases t3 with
          | false =>
            have HF := Lib.hid (rows_f (a := a) (rows := rows) (by rw [← e]; rfl))
            clear e
            go_wp2
            go_ret
            exact ⟨by rw [HF.out]; rfl, hy⟩
          | true =>
            cases t4 with
            | false =>
              have HF := Lib.hid (rows_f (a := a) (rows := rows) (by rw [← e]; rfl))
              clear e
              go_wp2_with (go_at_call 52; refine (AreValidValues_any lr hv).mono ?_; rintro e w' ⟨rfl, rfl⟩; rw [N4.out])
              go_ret
              exact ⟨by rw [HF.out]; rfl, hy⟩
            | true =>
              by_cases hk0 : 0 < k
              · obtain ⟨_, A2, c2, hc2, hv2⟩ := (h1.toExt hy).atV' (k := k - 1) (by omega)
                have lr2 := HL.out (k - 1)
                obtain ⟨r2, hr2⟩ : ∃ r, rows.getD (k - 1) [] = r := ⟨_, rfl⟩
                rw [hr2] at hc2 hv2 lr2 e
                obtain ⟨C, hC⟩ : ∃ C, cmpL r2 r = C := ⟨_, rfl⟩
                rw [hC, decide_eq_false (show ¬ k = 0 by omega)] at e
                have HC := Lib.hid hC
                have s2 : ((k : Int) - 1).toNat = k - 1 := by omega
                clear hr2 hC
                by_cases hC0 : C < 0
                · have HK := Lib.hid (show allN (rowOk a rows) (rows.length - (k + 1)) (k + 1) = allN (rowOk a rows) rows.length 0 by rw [decide_eq_true hC0] at e; simpa using e)
                  clear e
                  go_wp2_with (first
                    | (go_at_call 52; refine (AreValidValues_any lr hv).mono ?_; rintro e w' ⟨rfl, rfl⟩; rw [N4.out])
                    | (go_at_call 53; refine (CompareRows_any lr2 hv2 lr hv).mono ?_; rintro e w2 ⟨rfl, hx2⟩; rw [HC.out]))
                  exact ⟨⟨k + 1, by go_num, by omega, trans_ext hy hx2, HK⟩, by simp [intOf]; omega⟩
                · have HF := Lib.hid (rows_f (a := a) (rows := rows) (by rw [decide_eq_false hC0] at e; rw [← e]; rfl))
                  have hC1 : 0 ≤ C := by omega
                  clear e
                  go_wp2_with (first
                    | (go_at_call 52; refine (AreValidValues_any lr hv).mono ?_; rintro e w' ⟨rfl, rfl⟩; rw [N4.out])
                    | (go_at_call 53; refine (CompareRows_any lr2 hv2 lr hv).mono ?_; rintro e w2 ⟨rfl, hx2⟩; rw [HC.out]))
                  go_ret
                  exact ⟨by rw [HF.out]; rfl, trans_ext hy hx2⟩
              · have HK := Lib.hid (show allN (rowOk a rows) (rows.length - (k + 1)) (k + 1) = allN (rowOk a rows) rows.length 0 by rw [decide_eq_true (show k = 0 by omega)] at e; simpa using e)
                clear e
                go_wp2_with (go_at_call 52; refine (AreValidValues_any lr hv).mono ?_; rintro e w' ⟨rfl, rfl⟩; rw [N4.out])
                exact ⟨⟨k + 1, by go_num, by omega, hy, HK⟩, by simp [intOf]; omega⟩
        · have e := Hj.out
          rw [allN_end hlt] at e
          have HK := Lib.hid (show rowsB a rows = true by rw [HE2.out, ← e])
          clear e Hj
          go_wp2
          go_ret
          exact ⟨by rw [HK.out]; rfl, hy⟩
    · have HE2 := Lib.hid (show rowsB a rows = false by rw [HE.out, decide_eq_false h4]; rfl)
      have h5 : 4000 < rows.length := by omega
      go_enter Try.func48, Try.ntmps48
      go_wp2_with (go_at_call 51; refine (within_any _ _ _ _).mono ?_; rintro e w' ⟨rfl, rfl⟩; rw [N1.out])
      go_ret
      exact ⟨by rw [HE2.out]; rfl, refl_ext w⟩
theorem rows_lenW {rows : List (List Int)} (h : ∀ x ∈ rows, x.length ≤ 1000000000) (j : Nat) : (rows.getD j []).length ≤ 1000000000 := by
  by_cases hj : j < rows.length
  · rw [List.getD_eq_getElem?_getD, List.getElem?_eq_getElem hj]
    exact h _ (List.getElem_mem hj)
  · rw [List.getD_eq_getElem?_getD, List.getElem?_eq_none (by omega)]
    simp
theorem IsValidRelation_w {a : Int} {A : Option Addr} {c : Nat} {rows : List (List Int)} {w : World} (hx : rows.length ≤ 1000000000) (hxl : ∀ x ∈ rows, x.length ≤ 1000000000) (h1 : RII w A rows) :
    Calls Try.prog 37 #[.agg #[.int .i64 a, .slice A rows.length c]] w fun e w' => e = .returned (.bool (rowsB a rows)) ∧ ∃ y, w' = ext w y := by
  have HL := Lib.hid (rows_lenW hxl)
  clear hxl
  go_enter Try.func37, Try.ntmps37
  go_wp2_with (go_at_call 48; refine (rowsValid_any hx HL.out (h1.toExt (by refine x'z ?_; repeat (with_reducible (first | exact x'a _ _ | exact x'b _ | exact x'c (by assumption) | refine x'd ?_ (by assumption) | refine x'e ?_ _ | refine x'f ?_ _ | refine x'g ?_ | refine x'h ?_ ?_ _ | refine x'i ?_ _ | refine x'j ?_ | refine x'k ?_ _ | refine x'l ?_ _ _ | refine x'm ?_ | assumption | (refine x'n ?_; omega) | omega))))).mono ?_; rintro e w1 ⟨rfl, hx1⟩)
  go_ret
  exact ⟨rfl, (by refine x'z ?_; repeat (with_reducible (first | exact x'a _ _ | exact x'b _ | exact x'c (by assumption) | refine x'd ?_ (by assumption) | refine x'e ?_ _ | refine x'f ?_ _ | refine x'g ?_ | refine x'h ?_ ?_ _ | refine x'i ?_ _ | refine x'j ?_ | refine x'k ?_ _ | refine x'l ?_ _ _ | refine x'm ?_ | assumption | (refine x'n ?_; omega) | omega)))⟩
end Go.Proofs.Ytgnmpjjlclbieaa
namespace Go.Proofs.Ytgnmpjjlclbieaa
open Go.RowKit
theorem getDl {α : Type} (l : List α) (d : α) {i : Nat} (h : i < l.length) : l.getD i d = l[i] := by rw [List.getD_eq_getElem?_getD, List.getElem?_eq_getElem h]; rfl
theorem cmpI_neg (a b : Int) : cmpI a b = - cmpI b a := by unfold cmpI; split <;> split <;> (try split) <;> omega
theorem cmpL_neg : ∀ (xs ys : List Int), cmpL xs ys = - cmpL ys xs
  | [], [] => by simp [cmpL]
  | [], _ :: _ => by simp [cmpL]
  | _ :: _, [] => by simp [cmpL]
  | x :: xs, y :: ys => by
    rw [cmpL, cmpL]
    by_cases h : x = y
    · subst h; rw [if_pos rfl, if_pos rfl]; exact cmpL_neg xs ys
    · rw [if_neg h, if_neg (fun e => h e.symm)]; exact cmpI_neg x y
theorem cmpL_trans : ∀ {xs ys zs : List Int}, cmpL xs ys < 0 → cmpL ys zs < 0 → cmpL xs zs < 0
  | [], [], _, h, _ => by simp [cmpL] at h
  | _ :: _, [], _, h, _ => by simp [cmpL] at h
  | _, _ :: _, [], _, h => by simp [cmpL] at h
  | [], _ :: _, _ :: _, _, _ => by simp [cmpL]
  | x :: xs, y :: ys, z :: zs, h, k => by
    rw [cmpL] at h k ⊢
    by_cases e : x = y
    · subst e
      rw [if_pos rfl] at h
      by_cases e2 : x = z
      · subst e2; rw [if_pos rfl] at k ⊢; exact cmpL_trans h k
      · rw [if_neg e2] at k ⊢; exact k
    · rw [if_neg e] at h
      by_cases e2 : y = z
      · subst e2; rw [if_neg e]; exact h
      · rw [if_neg e2] at k
        unfold cmpI at h k
        by_cases e3 : x = z
        · subst e3
          exfalso
          split at h <;> (try split at h) <;> split at k <;> (try split at k) <;> omega
        · rw [if_neg e3]; unfold cmpI
          split at h <;> (try split at h) <;> split at k <;> (try split at k) <;> (try omega)
theorem cmpL_self (x : List Int) : cmpL x x = 0 := cmpL_zero.2 rfl
def AscR (l : List (List Int)) : Prop := l.Pairwise fun x y => cmpL x y < 0
theorem ascR_nil : AscR [] := List.Pairwise.nil
theorem ascR_ext : ∀ {a b : List (List Int)}, AscR a → AscR b → (∀ x, x ∈ a ↔ x ∈ b) → a = b
  | [], [], _, _, _ => rfl
  | [], y :: b, _, _, h => absurd ((h y).2 (by simp)) (by simp)
  | x :: a, [], _, _, h => absurd ((h x).1 (by simp)) (by simp)
  | x :: a, y :: b, ha, hb, h => by
    unfold AscR at ha hb
    rw [List.pairwise_cons] at ha hb
    have e : x = y := by
      rcases List.mem_cons.1 ((h x).1 (by simp)) with e | e
      · exact e
      · rcases List.mem_cons.1 ((h y).2 (by simp)) with k | k
        · exact k.symm
        · have h1 := hb.1 x e
          have h2 := ha.1 y k
          rw [cmpL_neg] at h1
          omega
    subst e
    rw [ascR_ext ha.2 hb.2 fun z => ?_]
    constructor
    · intro hz
      rcases List.mem_cons.1 ((h z).1 (by simp [hz])) with k | k
      · subst k; have := ha.1 z hz; rw [cmpL_self] at this; omega
      · exact k
    · intro hz
      rcases List.mem_cons.1 ((h z).2 (by simp [hz])) with k | k
      · subst k; have := hb.1 z hz; rw [cmpL_self] at this; omega
      · exact k
def insRow (x : List Int) : List (List Int) → List (List Int)
  | [] => [x]
  | y :: l => if cmpL x y < 0 then x :: y :: l else if cmpL x y = 0 then y :: l else y :: insRow x l
def sortR (l : List (List Int)) : List (List Int) := l.foldr insRow []
theorem mem_insRow {x z : List Int} : ∀ {l : List (List Int)}, z ∈ insRow x l ↔ z = x ∨ z ∈ l
  | [] => by simp [insRow]
  | y :: l => by
    rw [insRow]
    split
    · simp
    · split
      · rename_i h
        rw [cmpL_zero] at h
        subst h
        simp
      · rw [List.mem_cons, mem_insRow, List.mem_cons]
        constructor
        · rintro (h | h | h)
          · exact .inr (.inl h)
          · exact .inl h
          · exact .inr (.inr h)
        · rintro (h | h | h)
          · exact .inr (.inl h)
          · exact .inl h
          · exact .inr (.inr h)
theorem asc_insRow {x : List Int} : ∀ {l : List (List Int)}, AscR l → AscR (insRow x l)
  | [], _ => by simp [insRow, AscR]
  | y :: l, h => by
    unfold AscR at h
    rw [List.pairwise_cons] at h
    rw [insRow]
    split
    · rename_i h1
      refine List.pairwise_cons.2 ⟨fun z hz => ?_, List.pairwise_cons.2 h⟩
      rcases List.mem_cons.1 hz with e | e
      · subst e; exact h1
      · exact cmpL_trans h1 (h.1 z e)
    · rename_i h1
      split
      · exact List.pairwise_cons.2 h
      · rename_i h2
        refine List.pairwise_cons.2 ⟨fun z hz => ?_, asc_insRow h.2⟩
        rcases mem_insRow.1 hz with e | e
        · subst e
          rw [cmpL_neg]
          have := cmpL_bd z y
          omega
        · exact h.1 z e
theorem mem_sortR {z : List Int} : ∀ {l : List (List Int)}, z ∈ sortR l ↔ z ∈ l
  | [] => by simp [sortR]
  | y :: l => by
    have := mem_sortR (z := z) (l := l)
    unfold sortR at this ⊢
    rw [List.foldr_cons, mem_insRow, List.mem_cons, this]
theorem asc_sortR : ∀ (l : List (List Int)), AscR (sortR l)
  | [] => ascR_nil
  | y :: l => by
    have := asc_sortR l
    unfold sortR at this ⊢
    rw [List.foldr_cons]
    exact asc_insRow this
theorem sortR_eq {a l : List (List Int)} (h : AscR a) (hm : ∀ x, x ∈ a ↔ x ∈ l) : a = sortR l := ascR_ext h (asc_sortR l) fun x => by rw [hm, mem_sortR]
structure MI (rows out a b : List (List Int)) : Prop where
  o : AscR out
  sa : AscR a
  sb : AscR b
  la : ∀ x ∈ out, ∀ y ∈ a, cmpL x y ≤ 0
  lb : ∀ x ∈ out, ∀ y ∈ b, cmpL x y ≤ 0
  m : ∀ x, x ∈ rows ↔ x ∈ out ∨ x ∈ a ∨ x ∈ b
structure MS (rows out a b : List (List Int)) : Prop where
  o : AscR out
  sa : AscR a
  sb : AscR b
  la : ∀ x ∈ out, ∀ y ∈ a, cmpL x y < 0
  lb : ∀ x ∈ out, ∀ y ∈ b, cmpL x y < 0
  m : ∀ x, x ∈ rows ↔ x ∈ out ∨ x ∈ a ∨ x ∈ b
theorem MI.done {rows out : List (List Int)} (h : MI rows out [] []) : out = sortR rows := sortR_eq h.o fun x => by simpa using (h.m x).symm
theorem MS.done {rows out : List (List Int)} (h : MS rows out [] []) : out = sortR rows := sortR_eq h.o fun x => by simpa using (h.m x).symm
theorem asc_snoc {out : List (List Int)} {x : List Int} (h : AscR out) (hx : ∀ y ∈ out, cmpL y x < 0) : AscR (out ++ [x]) :=
  List.pairwise_append.2 ⟨h, List.pairwise_singleton _ _, fun y hy z hz => by rw [List.mem_singleton.1 hz]; exact hx y hy⟩
theorem AscR.tail {x : List Int} {l : List (List Int)} (h : AscR (x :: l)) : AscR l := (List.pairwise_cons.1 h).2
theorem AscR.head {x : List Int} {l : List (List Int)} (h : AscR (x :: l)) : ∀ y ∈ l, cmpL x y < 0 := (List.pairwise_cons.1 h).1
theorem MS.left {rows out a b : List (List Int)} {x : List Int} (h : MS rows out (x :: a) b) (hb : ∀ y ∈ b, cmpL x y < 0) : MS rows (out ++ [x]) a b where
  o := asc_snoc h.o fun y hy => h.la y hy x (by simp)
  sa := h.sa.tail
  sb := h.sb
  la := fun y hy z hz => by
    rcases List.mem_append.1 hy with k | k
    · exact h.la y k z (by simp [hz])
    · rw [List.mem_singleton.1 k]; exact h.sa.head z hz
  lb := fun y hy z hz => by
    rcases List.mem_append.1 hy with k | k
    · exact h.lb y k z hz
    · rw [List.mem_singleton.1 k]; exact hb z hz
  m := fun z => by rw [h.m]; simp only [List.mem_append, List.mem_cons, List.not_mem_nil, or_false]; grind
theorem MS.right {rows out a b : List (List Int)} {y : List Int} (h : MS rows out a (y :: b)) (ha : ∀ x ∈ a, cmpL y x < 0) : MS rows (out ++ [y]) a b where
  o := asc_snoc h.o fun z hz => h.lb z hz y (by simp)
  sa := h.sa
  sb := h.sb.tail
  la := fun u hu z hz => by
    rcases List.mem_append.1 hu with k | k
    · exact h.la u k z hz
    · rw [List.mem_singleton.1 k]; exact ha z hz
  lb := fun u hu z hz => by
    rcases List.mem_append.1 hu with k | k
    · exact h.lb u k z (by simp [hz])
    · rw [List.mem_singleton.1 k]; exact h.sb.head z hz
  m := fun z => by rw [h.m]; simp only [List.mem_append, List.mem_cons, List.not_mem_nil, or_false]; grind
theorem MS.both {rows out a b : List (List Int)} {x : List Int} (h : MS rows out (x :: a) (x :: b)) : MS rows (out ++ [x]) a b where
  o := asc_snoc h.o fun z hz => h.lb z hz x (by simp)
  sa := h.sa.tail
  sb := h.sb.tail
  la := fun u hu z hz => by
    rcases List.mem_append.1 hu with k | k
    · exact h.la u k z (by simp [hz])
    · rw [List.mem_singleton.1 k]; exact h.sa.head z hz
  lb := fun u hu z hz => by
    rcases List.mem_append.1 hu with k | k
    · exact h.lb u k z (by simp [hz])
    · rw [List.mem_singleton.1 k]; exact h.sb.head z hz
  m := fun z => by rw [h.m]; simp only [List.mem_append, List.mem_cons, List.not_mem_nil, or_false]; grind
theorem MI.left {rows out a b : List (List Int)} {x : List Int} (h : MI rows out (x :: a) b) (hb : ∀ y ∈ b, cmpL x y ≤ 0) (hl : ∀ z, out.getLast? = some z → cmpL z x ≠ 0) : MI rows (out ++ [x]) a b where
  o := asc_snoc h.o fun y hy => by
    have h1 := h.la y hy x (by simp)
    rcases Int.lt_or_eq_of_le h1 with h2 | h2
    · exact h2
    · exfalso
      obtain rfl := cmpL_zero.1 h2
      obtain ⟨z, hz⟩ : ∃ z, out.getLast? = some z := by
        cases hg : out.getLast? with
        | none => rw [List.getLast?_eq_none_iff] at hg; subst hg; simp at hy
        | some z => exact ⟨z, rfl⟩
      have hzm := List.mem_of_getLast? hz
      have h3 := hl z hz
      have h4 := h.la z hzm y (by simp)
      obtain ⟨ys, e⟩ := List.getLast?_eq_some_iff.1 hz
      subst e
      have ho := h.o
      unfold AscR at ho
      rw [List.pairwise_append] at ho
      rcases List.mem_append.1 hy with k | k
      · have h5 := ho.2.2 y k z (by simp)
        rw [cmpL_neg] at h5
        omega
      · rw [List.mem_singleton.1 k, cmpL_self] at h3
        exact h3 rfl
  sa := h.sa.tail
  sb := h.sb
  la := fun y hy z hz => by
    rcases List.mem_append.1 hy with k | k
    · exact h.la y k z (by simp [hz])
    · rw [List.mem_singleton.1 k]; exact Int.le_of_lt (h.sa.head z hz)
  lb := fun y hy z hz => by
    rcases List.mem_append.1 hy with k | k
    · exact h.lb y k z hz
    · rw [List.mem_singleton.1 k]; exact hb z hz
  m := fun z => by rw [h.m]; simp only [List.mem_append, List.mem_cons, List.not_mem_nil, or_false]; grind
theorem MI.swap {rows out a b : List (List Int)} (h : MI rows out a b) : MI rows out b a := ⟨h.o, h.sb, h.sa, h.lb, h.la, fun x => by rw [h.m]; constructor <;> (intro k; rcases k with k | k | k <;> simp [k])⟩
theorem MI.right {rows out a b : List (List Int)} {x : List Int} (h : MI rows out a (x :: b)) (ha : ∀ y ∈ a, cmpL x y ≤ 0) (hl : ∀ z, out.getLast? = some z → cmpL z x ≠ 0) : MI rows (out ++ [x]) a b := (h.swap.left ha hl).swap
theorem asc_get {rows : List (List Int)} (h : AscR rows) {i j : Nat} (hij : i < j) (hj : j < rows.length) : cmpL rows[i] rows[j] < 0 := List.pairwise_iff_getElem.1 h i j (by omega) hj hij
theorem allN_true {p : Nat → Bool} : ∀ {n k : Nat}, allN p n k = true ↔ ∀ i, k ≤ i → i < k + n → p i = true
  | 0, k => by simp [allN]; intro i h1 h2; omega
  | n + 1, k => by
    rw [allN, Bool.and_eq_true, allN_true]
    constructor
    · rintro ⟨h1, h2⟩ i h3 h4
      rcases Nat.lt_or_eq_of_le h3 with h5 | h5
      · exact h2 i (by omega) (by omega)
      · subst h5; exact h1
    · exact fun h => ⟨h k (Nat.le_refl _) (by omega), fun i h1 h2 => h i (by omega) (by omega)⟩
theorem rowsB_iff {a : Int} {rows : List (List Int)} : rowsB a rows = true ↔ 0 ≤ a ∧ a ≤ 5 ∧ rows.length ≤ 4000 ∧ (∀ r ∈ rows, (r.length : Int) = a ∧ rowV r = true) ∧ AscR rows := by
  unfold rowsB
  rw [Bool.and_eq_true, Bool.and_eq_true, allN_true]
  constructor
  · rintro ⟨⟨h1, h2⟩, h3⟩
    have := inB_t h1
    refine ⟨this.1, this.2, by simpa using h2, fun r hr => ?_, ?_⟩
    · obtain ⟨i, hi, rfl⟩ := List.getElem_of_mem hr
      have := h3 i (by omega) (by omega)
      unfold rowOk at this
      rw [getDl _ _ hi] at this
      simp only [Bool.and_eq_true, decide_eq_true_eq] at this
      exact this.1
    · unfold AscR
      -- neighbours ascend, so all do
      have hn : ∀ i (h : i + 1 < rows.length), cmpL rows[i] rows[i + 1] < 0 := fun i h => by
        have := h3 (i + 1) (by omega) (by omega)
        unfold rowOk at this
        rw [getDl _ _ h, show i + 1 - 1 = i by omega, getDl _ _ (show i < rows.length by omega)] at this
        simp only [Bool.and_eq_true, Bool.or_eq_true, decide_eq_true_eq] at this
        rcases this.2 with k | k
        · omega
        · exact k
      rw [List.pairwise_iff_getElem]
      intro i j hi hj hij
      obtain ⟨d, rfl⟩ : ∃ d, j = i + 1 + d := ⟨j - i - 1, by omega⟩
      induction d with
      | zero => exact hn i hj
      | succ d ih => exact cmpL_trans (ih (by omega) (by omega)) (hn (i + 1 + d) hj)
  · rintro ⟨h1, h2, h3, h4, h5⟩
    refine ⟨⟨by simp [inB, h1, h2], by simpa using h3⟩, fun i _ hi => ?_⟩
    rw [Nat.zero_add] at hi
    unfold rowOk
    rw [getDl _ _ hi]
    have h6 := h4 _ (List.getElem_mem hi)
    simp only [Bool.and_eq_true, decide_eq_true_eq, Bool.or_eq_true]
    refine ⟨⟨h6.1, h6.2⟩, ?_⟩
    rcases Nat.eq_zero_or_pos i with h7 | h7
    · exact .inl h7
    · right
      rw [getDl _ _ (show i - 1 < rows.length by omega)]
      exact asc_get h5 (by omega) hi
end Go.Proofs.Ytgnmpjjlclbieaa
namespace Go.Proofs.Ytgnmpjjlclbieaa
open Go.RowKit
def dec (n : Nat) : List UInt8 := if _h : n < 10 then [UInt8.ofNat (48 + n)] else dec (n / 10) ++ [UInt8.ofNat (48 + n % 10)]
termination_by n
decreasing_by omega
def bs (l : List UInt8) : ByteArray := ⟨l.toArray⟩
theorem dec_small {n : Nat} (h : n < 10) : dec n = [UInt8.ofNat (48 + n)] := by rw [dec, dif_pos h]
theorem dec_big {n : Nat} (h : ¬ n < 10) : dec n = dec (n / 10) ++ [UInt8.ofNat (48 + n % 10)] := by rw [dec, dif_neg h]
theorem bs_append (a b : List UInt8) : bs a ++ bs b = bs (a ++ b) := by
  apply Go.WideShapes.bytes_inj
  simp [bs]
theorem dec_length : ∀ (k n : Nat), 1 ≤ k → n < 10 ^ k → (dec n).length ≤ k
  | 0, _, h, _ => absurd h (by omega)
  | k + 1, n, _, h => by
    by_cases h1 : n < 10
    · rw [dec_small h1]; simp
    · have hk : 1 ≤ k := by
        rcases Nat.eq_zero_or_pos k with h0 | h0
        · subst h0; simp at h; omega
        · exact h0
      have := dec_length k (n / 10) hk (by rw [Nat.pow_succ] at h; omega)
      rw [dec_big h1]
      simp
      exact this
theorem bs_size (l : List UInt8) : (bs l).size = l.length := by simp [bs, ByteArray.size]
theorem dec_ne (n : Nat) : dec n ≠ [] := by
  by_cases h : n < 10
  · rw [dec_small h]; simp
  · rw [dec_big h]; simp
def jh (p : List UInt8) : List (List UInt8) → List (List UInt8)
  | [] => [p]
  | q :: qs => (p ++ q) :: qs
def spl (c : UInt8) : List UInt8 → List (List UInt8)
  | [] => [[]]
  | x :: xs => if x = c then [] :: spl c xs else jh [x] (spl c xs)
theorem jh_ne (p : List UInt8) (L : List (List UInt8)) : jh p L ≠ [] := by cases L <;> simp [jh]
theorem spl_ne (c : UInt8) : ∀ l, spl c l ≠ []
  | [] => by simp [spl]
  | x :: xs => by
    unfold spl
    split
    · simp
    · exact jh_ne _ _
theorem jh_nil {L : List (List UInt8)} (h : L ≠ []) : jh [] L = L := by
  cases L with
  | nil => exact absurd rfl h
  | cons q qs => rfl
theorem spl_sep (c : UInt8) (xs : List UInt8) : spl c (c :: xs) = [] :: spl c xs := by rw [spl, if_pos rfl]
theorem spl_cut {c : UInt8} {l cut : List UInt8} {k : Nat} (h : k < l.length) (hc : l[k] = c) : jh cut (spl c (l.drop k)) = cut :: spl c (l.drop (k + 1)) := by
  rw [List.drop_eq_getElem_cons h, hc, spl_sep]
  simp [jh]
theorem spl_last {c : UInt8} {l cut : List UInt8} {k : Nat} (h : ¬ k < l.length) : jh cut (spl c (l.drop k)) = [cut] := by
  rw [List.drop_eq_nil_of_le (by omega)]
  simp [spl, jh]
def bl (s : ByteArray) : List UInt8 := s.data.toList
theorem bs_bl (s : ByteArray) : bs (bl s) = s := rfl
theorem bl_length (s : ByteArray) : (bl s).length = s.size := by rw [bl, Array.length_toList]; rfl
theorem bl_get (s : ByteArray) {k : Nat} (h : k < s.size) : (bl s)[k]'(by rw [bl_length]; exact h) = s[k] := rfl
theorem bl_inj {a b : ByteArray} (h : bl a = bl b) : a = b := by rw [← bs_bl a, h]; rfl
theorem ext_bs (s : ByteArray) (f k : Nat) : s.extract f k = bs (((bl s).take k).drop f) := by
  apply bl_inj
  simp [bl, bs, ByteArray.data_extract, Array.toList_extract, List.drop_take]
def splB (c : UInt8) (s : ByteArray) : List ByteArray := (spl c (bl s)).map bs
def SplI (c : UInt8) (s : ByteArray) (f k : Nat) (ds : List ByteArray) : Prop := ds ++ (jh (((bl s).take k).drop f) (spl c ((bl s).drop k))).map bs = splB c s
theorem SplI.cut {c : UInt8} {s : ByteArray} {f k : Nat} {ds : List ByteArray} (h : SplI c s f k ds) (hk : k < s.size) (hc : s[k] = c) : SplI c s (k + 1) (k + 1) (ds ++ [s.extract f k]) := by
  unfold SplI at h ⊢
  have hk' : k < (bl s).length := by rw [bl_length]; exact hk
  rw [spl_cut hk' (by rw [bl_get s hk]; exact hc)] at h
  rw [← h, (show ((bl s).take (k + 1)).drop (k + 1) = [] from List.drop_eq_nil_of_le (by simp; omega)), jh_nil (spl_ne c _), ext_bs]
  simp
theorem SplI.last {c : UInt8} {s : ByteArray} {f k : Nat} {ds : List ByteArray} (h : SplI c s f k ds) (hk : ¬ k < s.size) : ds ++ [s.extract f k] = splB c s := by
  unfold SplI at h
  rw [spl_last (by rw [bl_length]; exact hk)] at h
  rw [← h, ext_bs]
  simp
end Go.Proofs.Ytgnmpjjlclbieaa
