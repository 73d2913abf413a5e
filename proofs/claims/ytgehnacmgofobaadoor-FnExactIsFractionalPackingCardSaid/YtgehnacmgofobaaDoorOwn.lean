/- Memory by footprints: views that only read, rows that are owned, what an append, a make, a store does to them. No program in it. -/
import Derived.Test.YtgehnacmgofobaaDoorLib
import Derived.Maps.AppendAt
namespace Go.Proofs.YtgehnacmgofobaaDoor
open Go.RowKit

theorem le_addk {a n : Nat} (h : a ≤ n) (k : Nat) : a ≤ n + k := Nat.le_trans h (Nat.le_add_right n k)
theorem le_alloc {a : Nat} {w : World} (h : a ≤ w.heap.size) (o : Obj) : a ≤ (w.alloc o).heap.size := by rw [World.size_alloc]; omega
theorem le_setC {a : Nat} {w : World} (h : a ≤ w.heap.size) (p : Addr) (u : Value) : a ≤ (w.setCell p u).heap.size := by rw [World.size_setCell]; exact h
theorem le_drew {a : Nat} {w : World} (h : a ≤ w.heap.size) : a ≤ w.drew.heap.size := h

theorem str_beq (s t : ByteArray) : (s.toList == t.toList) = decide (s = t) := by
  by_cases h : s = t
  · subst h; simp
  · rw [decide_eq_false h, beq_eq_false_iff_ne]
    intro e
    rw [ByteArray.toList_eq, ByteArray.toList_eq] at e
    exact h (Go.WideShapes.bytes_inj e)

/-! ### what changes: at most the blocks F and new ones -/
structure Chg (F : List Nat) (w w' : World) : Prop where
  os : w'.os = w.os
  tape : w'.tape = w.tape
  output : w'.output = w.output
  size : w.heap.size ≤ w'.heap.size
  block : ∀ k, k < w.heap.size → k ∉ F → w'.heap[k]? = w.heap[k]?

theorem Chg.refl (F : List Nat) (w : World) : Chg F w w := ⟨rfl, rfl, rfl, Nat.le_refl _, fun _ _ _ => rfl⟩
theorem Chg.trans {F G : List Nat} {a b c : World} (h : Chg F a b) (k : Chg G b c) (hG : ∀ x ∈ G, x ∈ F ∨ a.heap.size ≤ x) : Chg F a c :=
  ⟨k.os.trans h.os, k.tape.trans h.tape, k.output.trans h.output, Nat.le_trans h.size k.size, fun i hi hF => by
    rw [k.block i (Nat.lt_of_lt_of_le hi h.size) (fun hg => by
      rcases hG i hg with h1 | h1
      · exact hF h1
      · omega), h.block i hi hF]⟩
theorem Chg.mono {F G : List Nat} {a b : World} (h : Chg F a b) (hG : ∀ x ∈ F, x ∈ G ∨ a.heap.size ≤ x) : Chg G a b :=
  ⟨h.os, h.tape, h.output, h.size, fun i hi hF => h.block i hi (fun hf => by
    rcases hG i hf with h1 | h1
    · exact hF h1
    · omega)⟩
theorem Chg.ofExt {F : List Nat} {w w' : World} (h : ∃ y, w' = ext w y) : Chg F w w' := by
  obtain ⟨y, rfl⟩ := h
  have hb := below_ext w y
  exact ⟨hb.os, hb.tape, hb.output, hb.size, fun k hk _ => hb.block k hk⟩
theorem Chg.cell {F : List Nat} {w w' : World} (h : Chg F w w') {b o : Nat} (hb : b ∉ F) (hl : b < w.heap.size) : w'.cell? ⟨b, o, none⟩ = w.cell? ⟨b, o, none⟩ := World.cell?_of_block (h.block b hl hb)
theorem Chg.alloc {F : List Nat} {a w : World} (h : Chg F a w) (o : Obj) : Chg F a (w.alloc o) := h.trans (Chg.ofExt (F := []) (alloc_ext w o)) (by simp)
theorem Chg.drew {F : List Nat} {a w : World} (h : Chg F a w) : Chg F a w.drew := h.trans (Chg.ofExt (F := []) (drew_ext w)) (by simp)
theorem Chg.setCell {F : List Nat} {a w : World} (h : Chg F a w) {p : Addr} (hp : p.block ∈ F ∨ a.heap.size ≤ p.block) (u : Value) : Chg F a (w.setCell p u) :=
  ⟨h.os, h.tape, h.output, by simpa using h.size, fun k hk hF => by
    rw [Below.heap_setCell w p u k (fun e => by
      rcases hp with h1 | h1
      · exact hF (by rw [e]; exact h1)
      · omega), h.block k hk hF]⟩
theorem Chg.setCellE {F : List Nat} {a w : World} (h : Chg F a w) {b o : Nat} {s : Option Nat} (hp : a.heap.size ≤ b) (u : Value) : Chg F a (w.setCell ⟨b, o, s⟩ u) := h.setCell (.inr hp) u
theorem Chg.extS {F : List Nat} {a w : World} (h : Chg F a w) (y : World) : Chg F a (ext w y) := h.trans (Chg.ofExt (F := []) ⟨y, rfl⟩) (by simp)
theorem Chg.extR (F : List Nat) (w y : World) : Chg F w (ext w y) := Chg.ofExt ⟨y, rfl⟩
/-- Where all that changes is newer than 'w0', 'w0' is only extended. -/
theorem Chg.isExt {F : List Nat} {w0 w w' : World} (h : Chg F w w') (h0 : ∃ y, w = ext w0 y) (hF : ∀ x ∈ F, w0.heap.size ≤ x) : ∃ y, w' = ext w0 y := by
  obtain ⟨y, rfl⟩ := h0
  have hb := below_ext w0 y
  exact Go.Proofs.YtgehnacmgofobaaDoor.isExt ⟨h.os.trans hb.os, h.tape.trans hb.tape, h.output.trans hb.output, Nat.le_trans hb.size h.size, fun k hk => by
    rw [h.block k (Nat.lt_of_lt_of_le hk hb.size) (fun hf => by have := hF k hf; omega), hb.block k hk]⟩
theorem Chg.ofGrown {w w' : World} {row : Option Nat} {F : List Nat} (h : w.grownBy w' row) (hF : ∀ k, row = some k → k ∈ F) : Chg F w w' :=
  ⟨h.os, h.tape, h.output, h.size, fun k hk hn => h.block k hk (fun e => hn (hF k e.symm))⟩

/-- the cells cs in block B, free to be written -/
def BoxAt (w : World) (B : Nat) (cs : Array Value) : Prop := B < w.heap.size ∧ (∀ j, w.cell? ⟨B, j, none⟩ = cs[j]?) ∧ ∀ j, w.frozen? ⟨B, j, none⟩ = false
section
variable {w w' : World} {B : Nat} {cs : Array Value}
theorem BoxAt.new (w : World) (cs : Array Value) (t : TypeId) : BoxAt (w.alloc (.cells cs t)) w.heap.size cs := ⟨by simp, fun j => by simp, fun j => frozen_of_row _ _ _ _ _ (heap_alloc_new w _)⟩
theorem BoxAt.keep (h : BoxAt w B cs) (hk : w'.heap[B]? = w.heap[B]?) (hs : w.heap.size ≤ w'.heap.size) : BoxAt w' B cs := ⟨Nat.lt_of_lt_of_le h.1 hs, fun j => (World.cell?_of_block hk).trans (h.2.1 j), fun j => (World.frozen?_of_block hk).trans (h.2.2 j)⟩
theorem BoxAt.toExt (h : BoxAt w B cs) (hx : ∃ y, w' = ext w y) : BoxAt w' B cs := by
  obtain ⟨y, rfl⟩ := hx
  exact h.keep ((below_ext w y).block B h.1) size_ext
theorem BoxAt.alloc (h : BoxAt w B cs) (o : Obj) : BoxAt (w.alloc o) B cs := h.toExt (alloc_ext w o)
theorem BoxAt.drew (h : BoxAt w B cs) : BoxAt w.drew B cs := h
theorem BoxAt.chg {F : List Nat} (h : BoxAt w B cs) (hc : Chg F w w') (hB : B ∉ F) : BoxAt w' B cs := h.keep (hc.block B h.1 hB) hc.size
theorem box4 (h : BoxAt w B cs) : BoxAt w B cs ∧ B < w.heap.size ∧ (∀ j, w.cell? ⟨B, j, none⟩ = cs[j]?) ∧ ∀ j, w.frozen? ⟨B, j, none⟩ = false := ⟨h, h⟩
theorem Chg.trans0 {F : List Nat} {a b c : World} (h : Chg F a b) (k : ∃ y, c = ext b y) : Chg F a c := h.trans (Chg.ofExt (F := []) k) (by simp)
end

/-! ### views: what a slice reads as -/
/-- the cells of one element read as a datum -/
abbrev VE (α : Type) := World → List Value → α → Prop
class VMono {α : Type} (E : VE α) : Prop where
  ext : ∀ {w x c d}, E w c d → E (ext w x) c d

def RV {α : Type} (size : Nat) (E : VE α) (w : World) (A : Option Addr) (ds : List α) : Prop :=
  ds ≠ [] → ∃ b o, A = some ⟨b, o, none⟩ ∧ b < w.heap.size ∧ ∀ j (h : j < ds.length), ∃ c : List Value, c.length = size ∧ (∀ i (hi : i < c.length), w.cell? ⟨b, o + j * size + i, none⟩ = some c[i]) ∧ E w c ds[j]

section
variable {α : Type} {size : Nat} {E : VE α} {w x : World} {A : Option Addr} {ds : List α}
theorem RV.ext [VMono E] (h : RV size E w A ds) : RV size E (ext w x) A ds := fun hn => by
  obtain ⟨b, o, h1, h2, h3⟩ := h hn
  refine ⟨b, o, h1, lt_ext h2, fun j hj => ?_⟩
  obtain ⟨c, hc, hr, he⟩ := h3 j hj
  exact ⟨c, hc, fun i hi => by rw [cell_ext h2]; exact hr i hi, VMono.ext he⟩
theorem RV.toExt [VMono E] {w' : World} (h : RV size E w A ds) (hx : ∃ y, w' = Go.Proofs.YtgehnacmgofobaaDoor.ext w y) : RV size E w' A ds := by
  obtain ⟨y, rfl⟩ := hx
  exact h.ext
theorem RV.nil : RV size E w A ([] : List α) := fun h => absurd rfl h
theorem RV.get (h : RV size E w A ds) {k : Nat} (hk : k < ds.length) : ∃ b o, A = some ⟨b, o, none⟩ ∧ b < w.heap.size ∧ ∃ c : List Value, c.length = size ∧ (∀ i (hi : i < c.length), w.cell? ⟨b, o + k * size + i, none⟩ = some c[i]) ∧ E w c ds[k] := by
  obtain ⟨b, o, h1, h2, h3⟩ := h (by intro h; subst h; simp at hk)
  exact ⟨b, o, h1, h2, h3 k hk⟩
/-- a part of a slice: 's[lo:hi]' -/
theorem RV.cut (h : RV size E w A ds) {lo hi : Nat} (hl : lo ≤ hi) (hh : hi ≤ ds.length) {A' : Option Addr} (hA : ∀ b o, A = some ⟨b, o, none⟩ → lo < hi → A' = some ⟨b, o + lo * size, none⟩) : RV size E w A' ((ds.take hi).drop lo) := fun hn => by
  have hlt : lo < hi := by
    rcases Nat.lt_or_ge lo hi with h1 | h1
    · exact h1
    · exact absurd (List.drop_eq_nil_of_le (by simp; omega)) hn
  obtain ⟨b, o, h1, h2, h3⟩ := h (by intro h; subst h; simp at hh; omega)
  refine ⟨b, o + lo * size, hA b o h1 hlt, h2, fun j hj => ?_⟩
  simp only [List.length_drop, List.length_take] at hj
  obtain ⟨c, hc, hr, he⟩ := h3 (lo + j) (by omega)
  refine ⟨c, hc, fun i hi => ?_, ?_⟩
  · rw [← hr i hi]
    congr 2
    rw [Nat.add_mul]
    omega
  · simpa using he
end

def vI : VE Int := fun _ c n => c = [.int .i64 n]
def vR : VE (Int × Int) := fun _ c r => c = [.int .i64 r.1, .int .i64 r.2]
def vS : VE ByteArray := fun _ c s => c = [.string s]
def vB : VE Bool := fun _ c b => c = [.bool b]
def vSl {α : Type} (size : Nat) (E : VE α) : VE (List α) := fun w c ds => ∃ A cap, c = [.slice A ds.length (ds.length + cap)] ∧ RV size E w A ds
instance : VMono vI := ⟨fun h => h⟩
instance : VMono vR := ⟨fun h => h⟩
instance : VMono vS := ⟨fun h => h⟩
instance : VMono vB := ⟨fun h => h⟩
instance {α : Type} (size : Nat) (E : VE α) [VMono E] : VMono (vSl size E) := ⟨fun ⟨A, cap, h, k⟩ => ⟨A, cap, h, k.ext⟩⟩

abbrev RI := RV 1 vI
abbrev RR := RV 2 vR
abbrev RS := RV 1 vS
abbrev RB := RV 1 vB
abbrev RII := RV 1 (vSl 1 vI)
abbrev RRR := RV 1 (vSl 2 vR)

section
variable {w : World} {A : Option Addr} {k : Nat}
theorem RV.atI {xs : List Int} (h : RI w A xs) (hk : k < xs.length) : ∃ b o, A = some ⟨b, o, none⟩ ∧ b < w.heap.size ∧ w.cell? ⟨b, o + k, none⟩ = some (.int .i64 xs[k]) := by
  obtain ⟨b, o, h1, h2, c, hc, hr, he⟩ := h.get hk
  simp only [vI] at he
  subst he
  exact ⟨b, o, h1, h2, by simpa using hr 0 (by simp)⟩
theorem RV.atS {xs : List ByteArray} (h : RS w A xs) (hk : k < xs.length) : ∃ b o, A = some ⟨b, o, none⟩ ∧ b < w.heap.size ∧ w.cell? ⟨b, o + k, none⟩ = some (.string xs[k]) := by
  obtain ⟨b, o, h1, h2, c, hc, hr, he⟩ := h.get hk
  simp only [vS] at he
  subst he
  exact ⟨b, o, h1, h2, by simpa using hr 0 (by simp)⟩
theorem RV.atB {xs : List Bool} (h : RB w A xs) (hk : k < xs.length) : ∃ b o, A = some ⟨b, o, none⟩ ∧ b < w.heap.size ∧ w.cell? ⟨b, o + k, none⟩ = some (.bool xs[k]) := by
  obtain ⟨b, o, h1, h2, c, hc, hr, he⟩ := h.get hk
  simp only [vB] at he
  subst he
  exact ⟨b, o, h1, h2, by simpa using hr 0 (by simp)⟩
theorem RV.atR {xs : List (Int × Int)} (h : RR w A xs) (hk : k < xs.length) : ∃ b o, A = some ⟨b, o, none⟩ ∧ b < w.heap.size ∧ w.cell? ⟨b, o + k * 2, none⟩ = some (.int .i64 xs[k].1) ∧ w.cell? ⟨b, o + k * 2 + 1, none⟩ = some (.int .i64 xs[k].2) := by
  obtain ⟨b, o, h1, h2, c, hc, hr, he⟩ := h.get hk
  simp only [vR] at he
  subst he
  exact ⟨b, o, h1, h2, by simpa using hr 0 (by simp), by simpa using hr 1 (by simp)⟩
theorem RV.atV {α : Type} {size : Nat} {E : VE α} {xs : List (List α)} (h : RV 1 (vSl size E) w A xs) (hk : k < xs.length) : ∃ b o A' c', A = some ⟨b, o, none⟩ ∧ b < w.heap.size ∧ w.cell? ⟨b, o + k, none⟩ = some (.slice A' xs[k].length c') ∧ RV size E w A' xs[k] := by
  obtain ⟨b, o, h1, h2, c, hc, hr, he⟩ := h.get hk
  obtain ⟨A', c', rfl, hv⟩ := he
  exact ⟨b, o, A', _, h1, h2, by simpa using hr 0 (by simp), hv⟩
end

/-! ### owned rows -/
abbrev SE (α : Type) := World → List Value → α → List Nat → Prop
class SMono {α : Type} (E : SE α) : Prop where
  lt : ∀ {w c d F}, E w c d F → ∀ b ∈ F, b < w.heap.size
  keep : ∀ {w w' : World} {c d F}, E w c d F → (∀ b ∈ F, w'.heap[b]? = w.heap[b]?) → E w' c d F

def fpOf (v : Value) : List Nat := match v.ownBlock with | some b => [b] | none => []
theorem mem_fpOf {v : Value} {b : Nat} : b ∈ fpOf v ↔ v.ownBlock = some b := by
  unfold fpOf
  cases v.ownBlock <;> simp [eq_comm]

/-- the cells of many elements, one behind the other; their footprints, one behind the other -/
def elems {α : Type} (size : Nat) (E : SE α) (w : World) : List Value → List α → List Nat → Prop
  | vs, [], F => vs = [] ∧ F = []
  | vs, d :: ds, F => ∃ c vs' F1 F2, vs = c ++ vs' ∧ c.length = size ∧ E w c d F1 ∧ elems size E w vs' ds F2 ∧ F = F1 ++ F2

section
variable {α : Type} {size : Nat} {E : SE α} {w w' : World}
theorem elems_append : ∀ {vs us : List Value} {ds es : List α} {F G : List Nat}, elems size E w vs ds F → elems size E w us es G → elems size E w (vs ++ us) (ds ++ es) (F ++ G)
  | _, us, [], es, _, G, ⟨h1, h2⟩, k => by subst h1 h2; simpa using k
  | _, us, d :: ds, es, _, G, ⟨c, vs', F1, F2, h1, h2, h3, h4, h5⟩, k => by
    subst h1 h5
    exact ⟨c, vs' ++ us, F1, F2 ++ G, by simp, h2, h3, elems_append h4 k, by simp⟩
theorem elems_one {c : List Value} {d : α} {F : List Nat} (hc : c.length = size) (h : E w c d F) : elems size E w c [d] F := ⟨c, [], F, [], by simp, hc, h, ⟨rfl, rfl⟩, by simp⟩
theorem elems_split : ∀ {vs : List Value} {ds es : List α} {F : List Nat}, elems size E w vs (ds ++ es) F → ∃ vs1 vs2 F1 F2, vs = vs1 ++ vs2 ∧ F = F1 ++ F2 ∧ elems size E w vs1 ds F1 ∧ elems size E w vs2 es F2
  | vs, [], es, F, h => ⟨[], vs, [], F, rfl, rfl, ⟨rfl, rfl⟩, h⟩
  | _, d :: ds, es, _, ⟨c, vs', F1, F2, h1, h2, h3, h4, h5⟩ => by
    obtain ⟨u1, u2, G1, G2, e1, e2, k1, k2⟩ := elems_split h4
    subst h1 h5 e1 e2
    exact ⟨c ++ u1, u2, F1 ++ G1, G2, by simp, by simp, ⟨c, u1, F1, G1, rfl, h2, h3, k1, rfl⟩, k2⟩
theorem elems_length : ∀ {vs : List Value} {ds : List α} {F : List Nat}, elems size E w vs ds F → vs.length = ds.length * size
  | _, [], _, ⟨h1, _⟩ => by simp [h1]
  | _, d :: ds, _, ⟨c, vs', F1, F2, h1, h2, _, h4, _⟩ => by
    have := elems_length h4
    subst h1
    simp only [List.length_append, List.length_cons, h2, this, Nat.add_mul]
    omega
theorem elems_keep [SMono E] : ∀ {vs : List Value} {ds : List α} {F : List Nat}, elems size E w vs ds F → (∀ b ∈ F, w'.heap[b]? = w.heap[b]?) → elems size E w' vs ds F
  | _, [], _, h, _ => h
  | _, d :: ds, _, ⟨c, vs', F1, F2, h1, h2, h3, h4, h5⟩, hk => by
    subst h5
    exact ⟨c, vs', F1, F2, h1, h2, SMono.keep h3 (fun b hb => hk b (by simp [hb])), elems_keep h4 (fun b hb => hk b (by simp [hb])), rfl⟩
theorem elems_lt [SMono E] : ∀ {vs : List Value} {ds : List α} {F : List Nat}, elems size E w vs ds F → ∀ b ∈ F, b < w.heap.size
  | _, [], _, ⟨_, h2⟩, b, hb => by subst h2; simp at hb
  | _, d :: ds, _, ⟨c, vs', F1, F2, h1, h2, h3, h4, h5⟩, b, hb => by
    subst h5
    rcases List.mem_append.1 hb with h | h
    · exact SMono.lt h3 b h
    · exact elems_lt h4 b h
/-- the element at k -/
theorem elems_at : ∀ {vs : List Value} {ds : List α} {F : List Nat} {k : Nat} (_ : elems size E w vs ds F) (hk : k < ds.length), ∃ c F1 F2 F3, (vs.drop (k * size)).take size = c ∧ c.length = size ∧ E w c ds[k] F2 ∧ F = F1 ++ F2 ++ F3
  | _, d :: ds, _, 0, ⟨c, vs', F1, F2, h1, h2, h3, _, h5⟩, _ => by
    subst h1 h5
    exact ⟨c, [], F1, F2, by simp [h2], h2, h3, by simp⟩
  | _, d :: ds, _, k + 1, ⟨c, vs', F1, F2, h1, h2, h3, h4, h5⟩, hk => by
    subst h1 h5
    obtain ⟨c', G1, G2, G3, e1, e2, e3, e4⟩ := elems_at (k := k) h4 (by simpa using hk)
    refine ⟨c', F1 ++ G1, G2, G3, ?_, e2, by simpa using e3, by simp [e4]⟩
    rw [← e1, show (k + 1) * size = c.length + k * size by rw [h2, Nat.add_mul]; omega, List.drop_append, List.drop_eq_nil_of_le (Nat.le_add_right _ _)]
    simp
end

/-- the slice v, at the head of a row of its own (or nil), holds ds; F: its block, then its elements' -/
def SV {α : Type} (te size : Nat) (E : SE α) (w : World) (v : Value) (ds : List α) (F : List Nat) : Prop :=
  ∃ vs F2, w.ownsRow 0 te size v ds.length vs ∧ elems size E w vs ds F2 ∧ F = fpOf v ++ F2

section
variable {α : Type} {te size : Nat} {E : SE α} {w w' : World} {v : Value} {ds : List α} {F : List Nat}
theorem ownsRow_keepB {n : Nat} {vs : List Value} (h : w.ownsRow 0 te size v n vs) (hk : ∀ b ∈ fpOf v, w'.heap[b]? = w.heap[b]?) : w'.ownsRow 0 te size v n vs := by
  refine ⟨h.1, ?_⟩
  rcases h.2 with hn | ⟨g, cap, cur, rfl, hb, hg, rest⟩
  · exact .inl hn
  · exact .inr ⟨g, cap, cur, rfl, hb, by rw [hk g (mem_fpOf.2 rfl)]; exact hg, rest⟩
theorem SV.lt [SMono E] (h : SV te size E w v ds F) : ∀ b ∈ F, b < w.heap.size := by
  obtain ⟨vs, F2, h1, h2, rfl⟩ := h
  intro b hb
  rcases List.mem_append.1 hb with h | h
  · exact (h1.lt b (mem_fpOf.1 h)).2
  · exact elems_lt h2 b h
theorem SV.keep [SMono E] (h : SV te size E w v ds F) (hk : ∀ b ∈ F, w'.heap[b]? = w.heap[b]?) : SV te size E w' v ds F := by
  obtain ⟨vs, F2, h1, h2, rfl⟩ := h
  exact ⟨vs, F2, ownsRow_keepB h1 (fun b hb => hk b (by simp [hb])), elems_keep h2 (fun b hb => hk b (by simp [hb])), rfl⟩
theorem SV.ext [SMono E] {x : World} (h : SV te size E w v ds F) : SV te size E (ext w x) v ds F := h.keep fun b hb => (below_ext w x).block b (h.lt b hb)
theorem SV.toExt [SMono E] (h : SV te size E w v ds F) (hx : ∃ y, w' = Go.Proofs.YtgehnacmgofobaaDoor.ext w y) : SV te size E w' v ds F := by
  obtain ⟨y, rfl⟩ := hx
  exact h.ext
theorem SV.chg [SMono E] {G : List Nat} (h : SV te size E w v ds F) (hc : Chg G w w') (hd : ∀ b ∈ F, b ∉ G) : SV te size E w' v ds F := h.keep fun b hb => hc.block b (h.lt b hb) (hd b hb)
theorem SV.setC [SMono E] {B b o : Nat} {s : Option Nat} (h : SV te size E w v ds F) (hF : ∀ x ∈ F, B ≤ x) (hb : b < B) (u : Value) : SV te size E (w.setCell ⟨b, o, s⟩ u) v ds F :=
  h.keep fun x hx => Below.heap_setCell w _ u x (fun e => by have := hF x hx; simp only at e; omega)
theorem SV.allocO [SMono E] (h : SV te size E w v ds F) (o : Obj) : SV te size E (w.alloc o) v ds F := h.toExt (alloc_ext w o)
theorem SV.form (h : SV te size E w v ds F) : ∃ A cap, v = .slice A ds.length cap ∧ ds.length ≤ cap ∧ Hid (cap ≤ maxLen) := by
  obtain ⟨vs, F2, h1, _, _⟩ := h
  rcases h1.2 with ⟨rfl, hn⟩ | ⟨g, cap, cur, rfl, _, _, h3, h4, _⟩
  · exact ⟨none, 0, by rw [hn], by omega, Lib.hid (by simp [maxLen])⟩
  · exact ⟨_, cap, rfl, h3, h4⟩
theorem SV.nil : SV te size E w (.slice none 0 0) ([] : List α) [] := ⟨[], [], World.ownsRow_nil w 0 te size, ⟨rfl, rfl⟩, rfl⟩
/-- where there is an element the block is known -/
theorem SV.block (h : SV te size E w v ds F) (hn : ds ≠ []) : ∃ g cap, v = .slice (some ⟨g, 0, none⟩) ds.length cap ∧ g ∈ F ∧ ds.length ≤ cap ∧ Hid (cap ≤ maxLen) := by
  obtain ⟨vs, F2, h1, _, rfl⟩ := h
  rcases h1.2 with ⟨rfl, h0⟩ | ⟨g, cap, cur, rfl, _, _, h3, h4, _⟩
  · exact absurd (List.eq_nil_of_length_eq_zero h0) hn
  · exact ⟨g, cap, rfl, by simp [mem_fpOf, Value.ownBlock], h3, h4⟩
theorem SV.view {V : VE α} (h : SV te size E w v ds F) (hV : ∀ c d F, E w c d F → V w c d) : ∃ A cap, v = .slice A ds.length cap ∧ ds.length ≤ cap ∧ Hid (cap ≤ maxLen) ∧ RV size V w A ds := by
  obtain ⟨vs, F2, h1, h2, _⟩ := h
  rcases h1.2 with ⟨rfl, h0⟩ | ⟨g, cap, cur, hv, _, hg, h3, h4, h5, h6⟩
  · obtain rfl := List.eq_nil_of_length_eq_zero h0
    exact ⟨none, 0, rfl, by simp, Lib.hid (by simp [maxLen]), RV.nil⟩
  · refine ⟨_, cap, hv, h3, h4, fun hn => ⟨g, 0, rfl, (Array.getElem?_eq_some_iff.1 hg).1, fun j hj => ?_⟩⟩
    obtain ⟨c, F1, F2, F3, e1, e2, e3, _⟩ := elems_at h2 hj
    refine ⟨c, e2, fun i hi => ?_, hV _ _ _ e3⟩
    subst hv
    have hm : (j + 1) * size ≤ ds.length * size := Nat.mul_le_mul_right _ hj
    rw [Nat.add_mul] at hm
    rw [show 0 + j * size + i = j * size + i by omega, h1.cellAt _ (by omega)]
    rw [← List.getElem?_eq_getElem hi]
    conv => rhs; rw [← e1]
    rw [List.getElem?_take, if_pos (by omega), List.getElem?_drop]

theorem SV.toView {V : VE α} {A : Option Addr} {n c : Nat} (h : SV te size E w (.slice A n c) ds F) (hV : ∀ c d F, E w c d F → V w c d) : RV size V w A ds := by
  obtain ⟨A', c', e, _, _, r⟩ := h.view hV
  injection e with e
  rw [e]; exact r
end

def sI : SE Int := fun _ c n F => c = [.int .i64 n] ∧ F = []
def sR : SE (Int × Int) := fun _ c r F => c = [.int .i64 r.1, .int .i64 r.2] ∧ F = []
def sS : SE ByteArray := fun _ c s F => c = [.string s] ∧ F = []
def sB : SE Bool := fun _ c b F => c = [.bool b] ∧ F = []
def sSl {α : Type} (te size : Nat) (E : SE α) : SE (List α) := fun w c ds F => ∃ v, c = [v] ∧ SV te size E w v ds F
instance : SMono sI := ⟨fun h b hb => by rw [h.2] at hb; simp at hb, fun h _ => h⟩
instance : SMono sR := ⟨fun h b hb => by rw [h.2] at hb; simp at hb, fun h _ => h⟩
instance : SMono sS := ⟨fun h b hb => by rw [h.2] at hb; simp at hb, fun h _ => h⟩
instance : SMono sB := ⟨fun h b hb => by rw [h.2] at hb; simp at hb, fun h _ => h⟩
instance {α : Type} (te size : Nat) (E : SE α) [SMono E] : SMono (sSl te size E) := ⟨fun ⟨_, _, h⟩ => h.lt, fun ⟨v, e, h⟩ hk => ⟨v, e, h.keep hk⟩⟩

theorem sI_v {w : World} (c : List Value) (d : Int) (F : List Nat) (h : sI w c d F) : vI w c d := h.1
theorem sR_v {w : World} (c : List Value) (d : Int × Int) (F : List Nat) (h : sR w c d F) : vR w c d := h.1
theorem sS_v {w : World} (c : List Value) (d : ByteArray) (F : List Nat) (h : sS w c d F) : vS w c d := h.1
theorem sB_v {w : World} (c : List Value) (d : Bool) (F : List Nat) (h : sB w c d F) : vB w c d := h.1
theorem sSl_v {α : Type} {te size : Nat} {E : SE α} {V : VE α} {w : World} (hV : ∀ c d F, E w c d F → V w c d) (c : List Value) (d : List α) (F : List Nat) (h : sSl te size E w c d F) : vSl size V w c d := by
  obtain ⟨v, rfl, h⟩ := h
  obtain ⟨A, cap, rfl, hc, _, hv⟩ := h.view hV
  exact ⟨A, cap - d.length, by rw [Nat.add_sub_cancel' hc], hv⟩

/-- elements without memory of their own -/
class SPlain {α : Type} (E : SE α) : Prop where
  none : ∀ {w c d F}, E w c d F → F = []
instance : SPlain sI := ⟨fun h => h.2⟩
instance : SPlain sR := ⟨fun h => h.2⟩
instance : SPlain sS := ⟨fun h => h.2⟩
instance : SPlain sB := ⟨fun h => h.2⟩
theorem elems_plain {α : Type} {size : Nat} {E : SE α} [SPlain E] {w : World} : ∀ {vs : List Value} {ds : List α} {F : List Nat}, elems size E w vs ds F → F = []
  | _, [], _, ⟨_, h⟩ => h
  | _, _ :: _, _, ⟨_, _, _, _, _, _, h3, h4, h5⟩ => by rw [h5, SPlain.none h3, elems_plain h4]; rfl
theorem SV.plainF {α : Type} {te size : Nat} {E : SE α} [SPlain E] {w : World} {v : Value} {ds : List α} {F : List Nat} (h : SV te size E w v ds F) : F = fpOf v := by
  obtain ⟨vs, F2, _, h2, rfl⟩ := h
  rw [elems_plain h2]; simp
theorem fpOf_nodup (v : Value) : (fpOf v).Nodup := by unfold fpOf; split <;> simp
theorem SV.nodup {α : Type} {te size : Nat} {E : SE α} [SPlain E] {w : World} {v : Value} {ds : List α} {F : List Nat} (h : SV te size E w v ds F) : F.Nodup := by rw [h.plainF]; exact fpOf_nodup v

/-! ### the facts on an element type, in one -/
def SlT (P : Program) (t te size bytes : Nat) (z : Value) : Prop :=
  P.underlying t = some (.slice te) ∧ (P.info? te).map (fun i => (i.zero, i.size, i.bytes)) = some (some z, size, bytes) ∧ z.cells.size = size ∧ 0 < size

section
variable {P : Program} (w : World)

/-- append of cells that lie at some address, onto a row that is owned -/
theorem run_appS {α : Type} {E : SE α} [SMono E] {t ty te size bytes : Nat} {z : Value} (hT : SlT P t te size bytes z) {v : Value} {ds : List α} {F : List Nat} (hS : SV te size E w v ds F) (hN : F.Nodup)
    {ad : Addr} {m c : Nat} {cs : List Value} (hnews : ∀ j u, cs[j]? = some u → w.cell? (ad.add j) = some u) (h1 : ∀ u ∈ cs, u.oneCell' = true)
    {es : List α} {G : List Nat} (hm : m = es.length) (hE : elems size E w cs es G) (hN2 : (F ++ G).Nodup) (hlen : ds.length + m ≤ 2000000000) (hby : bytes ≤ 60000) :
    ∃ v' w' F', (Builtin.append_ #[t, t] ty #[v, .slice (some ad) m c]).run P w = .ok v' w' ∧ SV te size E w' v' (ds ++ es) F' ∧ Chg F w w' ∧ F'.Nodup ∧ (∀ b ∈ F', b ∈ F ∨ b ∈ G ∨ w.heap.size ≤ b) := by
  obtain ⟨ht, hi, hzs, hsz⟩ := hT
  obtain ⟨i, hi, hz, hs1, hs2⟩ := info_parts hi
  obtain ⟨vs, F2, ho, hel, rfl⟩ := hS
  subst hm
  have hl := elems_length hE
  have hb : (ds.length + es.length) * bytes ≤ 140737488355328 := Nat.le_trans (Nat.mul_le_mul hlen hby) (by omega)
  obtain ⟨v', w', hr, h2, h3, _, h5⟩ := run_append_own_at (P := P) w 0 t ty te i z size bytes ht hi hz hs1 hs2 hzs hsz v ds.length vs ho ad es.length c cs hl hnews h1 (by simp only [maxLen]; omega) hb (Nat.zero_le _)
  have hc : Chg (fpOf v) w w' := Chg.ofGrown h3 fun k hk => mem_fpOf.2 hk
  have hd : ∀ b, b ∈ F2 ∨ b ∈ G → b ∉ fpOf v := by
    intro b hb hv
    rw [List.append_assoc, List.nodup_append] at hN2
    exact hN2.2.2 b hv b (by simpa using hb) rfl
  have hF2 : elems size E w' vs ds F2 := elems_keep hel fun b hb => hc.block b (elems_lt hel b hb) (hd b (.inl hb))
  have hG : elems size E w' cs es G := elems_keep hE fun b hb => hc.block b (elems_lt hE b hb) (hd b (.inr hb))
  refine ⟨v', w', fpOf v' ++ (F2 ++ G), hr, ⟨vs ++ cs, F2 ++ G, by simpa using h2, elems_append hF2 hG, rfl⟩, hc.mono (fun x hx => .inl (by simp [hx])), ?_, ?_⟩
  · rw [List.append_assoc, List.nodup_append] at hN2
    rw [List.nodup_append]
    refine ⟨fpOf_nodup v', hN2.2.1, fun a ha b hb => ?_⟩
    rintro rfl
    rcases h5 with h5 | h5
    · exact hN2.2.2 a (by rw [mem_fpOf] at ha ⊢; rw [← h5]; exact ha) a hb rfl
    · rw [mem_fpOf, h5] at ha
      have hlt : a < w.heap.size := by
        rcases List.mem_append.1 hb with h | h
        · exact elems_lt hel a h
        · exact elems_lt hE a h
      injection ha with ha
      omega
  · intro b hb
    rcases List.mem_append.1 hb with h | h
    · rw [mem_fpOf] at h
      rcases h5 with h5 | h5
      · exact .inl (by simp [mem_fpOf, ← h5, h])
      · rw [h5] at h
        injection h with h
        exact .inr (.inr (by omega))
    · rcases List.mem_append.1 h with h | h
      · exact .inl (by simp [h])
      · exact .inr (.inl h)

theorem wp_appS {o : Oper} {a : Act} {K : Act → World → Prop} {Q : Exit → Act → World → Prop} (s x : Operand) (t : TypeId)
    (ho : o.op = .call { callee := .builtin .append, args := #[s, x], argTypes := #[t, t] })
    {α : Type} {E : SE α} [SMono E] {te size bytes : Nat} {z : Value} (hT : SlT P t te size bytes z) {v : Value} {ds : List α} {F : List Nat} (hs : a.eval s = v) (hS : SV te size E w v ds F) (hN : F.Nodup)
    {ad : Addr} {m c : Nat} {cs : List Value} (hx : a.eval x = .slice (some ad) m c) (hnews : ∀ j u, cs[j]? = some u → w.cell? (ad.add j) = some u) (h1 : ∀ u ∈ cs, u.oneCell' = true)
    {es : List α} {G : List Nat} (hm : m = es.length) (hE : elems size E w cs es G) (hN2 : (F ++ G).Nodup) (hlen : ds.length + m ≤ 2000000000) (hby : bytes ≤ 60000)
    (h : ∀ v' w' F', SV te size E w' v' (ds ++ es) F' → Chg F w w' → F'.Nodup → (∀ b ∈ F', b ∈ F ∨ b ∈ G ∨ w.heap.size ≤ b) → K (a.put o.dst v') w') : o.wp P a w K Q := by
  obtain ⟨v', w', F', hr, h2, h3, h4, h5⟩ := run_appS (P := P) (ty := o.type) w hT hS hN (c := c) hnews h1 hm hE hN2 hlen hby
  unfold Oper.wp execOp
  simp only [ho, resolve, invoke, builtin, Sem.run_bind, Sem.run_pure, Result.andThen_ok, List.map_toArray, List.map_cons, List.map_nil, hs, hx, hr]
  exact h v' w' F' h2 h3 h4 h5

theorem wpList_appS {ops : Array Oper} {rest : List Oper} {o : Oper} {a : Act} {Q : Exit → Act → World → Prop} (hgd : o.guard = none) (s x : Operand) (t : TypeId)
    (ho : o.op = .call { callee := .builtin .append, args := #[s, x], argTypes := #[t, t] })
    {α : Type} {E : SE α} [SMono E] {te size bytes : Nat} {z : Value} (hT : SlT P t te size bytes z) {v : Value} {ds : List α} {F : List Nat} (hs : a.eval s = v) (hS : SV te size E w v ds F) (hN : F.Nodup)
    {ad : Addr} {m c : Nat} {cs : List Value} (hx : a.eval x = .slice (some ad) m c) (hnews : ∀ j u, cs[j]? = some u → w.cell? (ad.add j) = some u) (h1 : ∀ u ∈ cs, u.oneCell' = true)
    {es : List α} {G : List Nat} (hm : m = es.length) (hE : elems size E w cs es G) (hN2 : (F ++ G).Nodup) (hlen : ds.length + m ≤ 2000000000) (hby : bytes ≤ 60000)
    (h : ∀ v' w' F', SV te size E w' v' (ds ++ es) F' → Chg F w w' → F'.Nodup → (∀ b ∈ F', b ∈ F ∨ b ∈ G ∨ w.heap.size ≤ b) → wpList P ops Q rest (a.put o.dst v') w') : wpList P ops Q (o :: rest) a w :=
  wpList_plain hgd fun _ hK => wp_appS w s x t ho hT hs hS hN hx hnews h1 hm hE hN2 hlen hby fun v' w' F' h2 h3 h4 h5 => hK _ _ (h v' w' F' h2 h3 h4 h5)

/-- 'out = append(out, x)', x a number: the one-element row lies in a block just made -/
theorem wpList_appI {ops : Array Oper} {rest : List Oper} {o : Oper} {a : Act} {Q : Exit → Act → World → Prop} (hgd : o.guard = none) (s x : Operand) (t : TypeId)
    (ho : o.op = .call { callee := .builtin .append, args := #[s, x], argTypes := #[t, t] })
    {te bytes : Nat} {z : Value} (hT : SlT P t te 1 bytes z) {v : Value} {ds : List Int} {F : List Nat} {w0 : World} {n : Int} {c : Nat} (hs : a.eval s = v) (hx : a.eval x = .slice (some ⟨w0.heap.size, 0, none⟩) 1 c) (hw : w = w0.alloc (.cells #[.int .i64 n] te))
    (hS : SV te 1 sI w0 v ds F) (hlen : ds.length + 1 ≤ 2000000000) (hby : bytes ≤ 60000)
    (h : ∀ v' w' F', SV te 1 sI w' v' (ds ++ [n]) F' → Chg F w0 w' → (∀ b ∈ F', b ∈ F ∨ w0.heap.size ≤ b) → wpList P ops Q rest (a.put o.dst v') w') : wpList P ops Q (o :: rest) a w := by
  subst hw
  have hS' : SV te 1 sI (w0.alloc (.cells #[.int .i64 n] te)) v ds F := hS.toExt (alloc_ext w0 _)
  refine wpList_appS _ hgd s x t ho hT hs hS' hS'.nodup hx (cs := [.int .i64 n]) (es := [n]) (G := []) (cell_one_new _ _ _) (by simp [Value.oneCell']) rfl (elems_one rfl ⟨rfl, rfl⟩) (by simpa using hS'.nodup) hlen hby ?_
  intro v' w' F' h2 h3 _ h5
  refine h v' w' F' h2 (((Chg.refl F w0).alloc _).trans h3 (fun x hx => .inl hx)) fun b hb => ?_
  rcases h5 b hb with h | h | h
  · exact .inl h
  · simp at h
  · exact .inr (by simp at h; omega)

/-- 'make([]T, n)' -/
theorem elems_replicate {α : Type} {size : Nat} {E : SE α} {c : List Value} {d : α} (hc : c.length = size) (hE : E w c d []) : ∀ n : Nat, elems size E w (List.replicate n c).flatten (List.replicate n d) []
  | 0 => ⟨rfl, rfl⟩
  | n + 1 => ⟨c, (List.replicate n c).flatten, [], [], by simp [List.replicate_succ], hc, hE, elems_replicate hc hE n, rfl⟩
theorem toList_madeCells (z : Array Value) (n : Nat) : (madeCells z (n * z.size)).toList = (List.replicate n z.toList).flatten := by
  induction n with
  | zero => simp [madeCells]
  | succ n ih =>
    rw [List.replicate_succ', List.flatten_append, ← ih]
    apply List.ext_getElem?
    intro i
    simp only [madeCells, List.getElem?_append, List.flatten_cons, List.flatten_nil, List.append_nil, Nat.add_mul, Nat.one_mul]
    by_cases h : i < n * z.size
    · simp [h, Nat.lt_of_lt_of_le h (Nat.le_add_right _ _)]
    · by_cases h2 : i < n * z.size + z.size
      · have h3 : i % z.size = i - n * z.size := by
          rw [show i = (i - n * z.size) + z.size * n by rw [Nat.mul_comm z.size n]; omega, Nat.add_mul_mod_self_left, Nat.mod_eq_of_lt (by omega)]
          rw [Nat.mul_comm z.size n]; omega
        have h4 : i - n * z.size < z.size := by omega
        simp [h, h2, h3, h4]
      · simp [h, h2]
        omega

theorem wpList_makeS {ops : Array Oper} {rest : List Oper} {o : Oper} {a : Act} {Q : Exit → Act → World → Prop} (hgd : o.guard = none) (l c : Operand) (t : TypeId) (hop : o.op = Op.makeSlice t l c)
    {α : Type} {E : SE α} {te size bytes : Nat} {z : Value} (hT : SlT P t te size bytes z) {n : Nat} (hl : a.eval l = .int .i64 (n : Int)) (hc : a.eval c = .int .i64 (n : Int)) {d : α} (hE : ∀ w, E w z.cells.toList d []) (hlen : n ≤ 2000000000) (hby : bytes ≤ 60000)
    (h : ∀ w', SV te size E w' (.slice (some ⟨w.heap.size, 0, none⟩) n n) (List.replicate n d) [w.heap.size] → (∃ y, w' = ext w y) → w.heap.size < w'.heap.size → wpList P ops Q rest (a.put o.dst (.slice (some ⟨w.heap.size, 0, none⟩) n n)) w') : wpList P ops Q (o :: rest) a w := by
  obtain ⟨ht, hi, hzs, hsz⟩ := hT
  obtain ⟨i, hi, hz, hs1, hs2⟩ := info_parts hi
  have hb : i.bytes * n ≤ 281474976710656 := by rw [hs2]; exact Nat.le_trans (Nat.mul_le_mul hby hlen) (by omega)
  refine wpList_make_full w hgd l c t hop 0 te i z size ht hi hz hs1 .i64 .i64 n n n hl hc rfl rfl hb (by simp only [maxLen]; omega) (Nat.zero_le _) ?_
  intro w' h1 h2
  have hx : Chg [] w w' := Chg.ofGrown h2 fun k hk => by cases hk
  refine h w' ⟨_, [], by simpa using h1, ?_, rfl⟩ (hx.isExt (refl_ext w) (by simp)) (h1.lt _ rfl).2
  rw [← hzs, toList_madeCells]
  exact elems_replicate w' (by simp [hzs]) (hE w') n
end

section
variable {w : World} {te size : Nat}
/-- reading and writing one element of an owned row -/
theorem SV.cell {α : Type} {E : SE α} {ds : List α} {g cap n : Nat} {F : List Nat} (h : SV te size E w (.slice (some ⟨g, 0, none⟩) n cap) ds F) (hn : ds.length = n) {j : Nat} (hj : j < n * size) : (∃ u, w.cell? ⟨g, j, none⟩ = some u) ∧ w.frozen? ⟨g, j, none⟩ = false ∧ g < w.heap.size := by
  subst hn
  obtain ⟨vs, F2, h1, h2, _⟩ := h
  refine ⟨?_, h1.frozenAt j, (h1.lt g rfl).2⟩
  rw [h1.cellAt j hj]
  have := h1.1
  exact ⟨_, List.getElem?_eq_getElem (by omega)⟩
theorem elems_set {α : Type} {E : SE α} [SPlain E] {c : List Value} {d : α} (hc : c.length = size) (hE : E w c d []) : ∀ {vs : List Value} {ds : List α} {F : List Nat} {k : Nat}, elems size E w vs ds F → k < ds.length → elems size E w (vs.take (k * size) ++ c ++ vs.drop (k * size + size)) (ds.set k d) F
  | _, d' :: ds, _, 0, ⟨c', vs', F1, F2, h1, h2, h3, h4, h5⟩, _ => by
    subst h1
    refine ⟨c, vs', [], F2, by simp [← h2], hc, hE, h4, ?_⟩
    rw [h5, SPlain.none h3]
  | _, d' :: ds, _, k + 1, ⟨c', vs', F1, F2, h1, h2, h3, h4, h5⟩, hk => by
    subst h1
    refine ⟨c', _, F1, F2, ?_, h2, h3, elems_set hc hE (k := k) h4 (by simpa using hk), h5⟩
    have e : (k + 1) * size = c'.length + k * size := by rw [h2, Nat.add_mul]; omega
    rw [e, Nat.add_assoc, List.take_length_add_append, List.drop_length_add_append]
    simp
theorem SV.set1 {α : Type} {E : SE α} [SPlain E] [SMono E] {ds : List α} {g cap n : Nat} {F : List Nat} (h : SV te 1 E w (.slice (some ⟨g, 0, none⟩) n cap) ds F) (hn : ds.length = n) {k : Nat} (hk : k < n) {u : Value} {d : α} (hE : ∀ w, E w [u] d []) :
    SV te 1 E (w.setCell ⟨g, k, none⟩ u) (.slice (some ⟨g, 0, none⟩) n cap) (ds.set k d) F ∧ Chg [g] w (w.setCell ⟨g, k, none⟩ u) := by
  subst hn
  have hF := h.plainF
  obtain ⟨vs, F2, h1, h2, _⟩ := h
  obtain ⟨h3, h4⟩ := h1.stored k u
  have h0 := elems_plain h2
  subst h0
  refine ⟨⟨vs.set k u, [], by simpa using h3, ?_, by simpa using hF⟩, Chg.ofGrown h4 fun k hk => by simpa using hk.symm⟩
  have hl := elems_length h2
  have hvk : k < vs.length := by omega
  have h5 := elems_set (size := 1) (w := w) (c := [u]) rfl (hE w) h2 hk
  have e : vs.take (k * 1) ++ [u] ++ vs.drop (k * 1 + 1) = vs.set k u := by
    rw [Nat.mul_one, List.set_eq_take_append_cons_drop, if_pos hvk]
    simp
  rw [e] at h5
  exact elems_keep h5 (by simp)
end

theorem SV.set2 {α : Type} {te : Nat} {w : World} {E : SE α} [SPlain E] [SMono E] {ds : List α} {g cap n : Nat} {F : List Nat} (h : SV te 2 E w (.slice (some ⟨g, 0, none⟩) n cap) ds F) (hn : ds.length = n) {k : Nat} (hk : k < n) {u v : Value} {d : α} (hE : ∀ w, E w [u, v] d []) :
    SV te 2 E ((w.setCell ⟨g, k * 2, none⟩ u).setCell ⟨g, k * 2 + 1, none⟩ v) (.slice (some ⟨g, 0, none⟩) n cap) (ds.set k d) F ∧ Chg [g] w ((w.setCell ⟨g, k * 2, none⟩ u).setCell ⟨g, k * 2 + 1, none⟩ v) := by
  subst hn
  have hF := h.plainF
  obtain ⟨vs, F2, h1, h2, _⟩ := h
  obtain ⟨h3, h4⟩ := h1.stored (k * 2) u
  obtain ⟨h3', h4'⟩ := h3.stored (k * 2 + 1) v
  have h0 := elems_plain h2
  subst h0
  refine ⟨⟨(vs.set (k * 2) u).set (k * 2 + 1) v, [], by simpa using h3', ?_, by simpa using hF⟩, (Chg.ofGrown h4 fun k hk => by simpa using hk.symm).trans (Chg.ofGrown (F := [g]) h4' fun k hk => by simpa using hk.symm) (fun x hx => .inl hx)⟩
  have hl := elems_length h2
  have hvk : k * 2 + 1 < vs.length := by omega
  have h5 := elems_set (size := 2) (w := w) (c := [u, v]) rfl (hE w) h2 hk
  have e : vs.take (k * 2) ++ [u, v] ++ vs.drop (k * 2 + 2) = (vs.set (k * 2) u).set (k * 2 + 1) v := by
    apply List.ext_getElem
    · simp; omega
    · intro i h1 h2
      simp only [List.getElem_append, List.getElem_set, List.length_append, List.length_take, List.length_cons, List.length_nil]
      by_cases c1 : i < k * 2
      · have : i < min (k * 2) vs.length := by omega
        simp [this, show i < min (k * 2) vs.length + (0 + 1 + 1) by omega, show ¬ k * 2 + 1 = i by omega, show ¬ k * 2 = i by omega]
      · by_cases c2 : i = k * 2
        · subst c2
          simp [show ¬ k * 2 < min (k * 2) vs.length by omega, show k * 2 < min (k * 2) vs.length + (0 + 1 + 1) by omega, show k * 2 - min (k * 2) vs.length = 0 by omega]
        · by_cases c3 : i = k * 2 + 1
          · subst c3
            simp [show ¬ k * 2 + 1 < min (k * 2) vs.length by omega, show k * 2 + 1 < min (k * 2) vs.length + (0 + 1 + 1) by omega, show k * 2 + 1 - min (k * 2) vs.length = 1 by omega]
          · simp [show ¬ i < min (k * 2) vs.length + (0 + 1 + 1) by omega, show ¬ k * 2 + 1 = i by omega, show ¬ k * 2 = i by omega]
            congr 1
            omega
  rw [e] at h5
  exact elems_keep h5 (by simp)

/-- '[]T{}' -/
theorem SV.empty {α : Type} {te size : Nat} {E : SE α} (w : World) : SV te size E (w.alloc (.cells #[] te)) (.slice (some ⟨w.heap.size, 0, none⟩) 0 0) ([] : List α) [w.heap.size] :=
  ⟨[], [], ⟨by simp, .inr ⟨w.heap.size, 0, #[], rfl, Nat.zero_le _, heap_alloc_new w _, Nat.le_refl _, by simp [maxLen], by simp, by simp⟩⟩, ⟨rfl, rfl⟩, rfl⟩
/-- what is newer than w0 stays newer behind an append -/
theorem newer {w0 w : World} {F F' : List Nat} (hF : ∀ b ∈ F, w0.heap.size ≤ b) (hw : w0.heap.size ≤ w.heap.size) (h : ∀ b ∈ F', b ∈ F ∨ w.heap.size ≤ b) : ∀ b ∈ F', w0.heap.size ≤ b := fun b hb => by
  rcases h b hb with h1 | h1
  · exact hF b h1
  · omega
theorem size_of_ext {w0 w : World} (h : ∃ y, w = ext w0 y) : w0.heap.size ≤ w.heap.size := by
  obtain ⟨y, rfl⟩ := h
  exact size_ext

end Go.Proofs.YtgehnacmgofobaaDoor
