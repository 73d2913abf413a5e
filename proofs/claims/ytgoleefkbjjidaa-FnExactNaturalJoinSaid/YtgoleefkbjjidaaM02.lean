/- Contracts of functions that the statements reach, joined from several texts: RowsT, Bytes, AppL, AppV, RelOk2, Atom, Common, Asc, JoinPl, Row1, Row2, Dec, Names, Unite, Sort5. -/
import Derived.Test.YtgoleefkbjjidaaRows
import Derived.Test.YtgoleefkbjjidaaM01
import Derived.Laws.BytesArg
import Derived.Laws.AppendOwnNone
import Derived.Deep.DeepCutAuto
/- The type of lists of lists of numbers, as the model holds it. -/
namespace Go.Proofs.Ytgoleefkbjjidaa
theorem tIIr : SlT Try.prog 23 22 1 24 (.slice none 0 0) := ⟨Try.underlying23, by kernel_rfl, rfl, by omega⟩
end Go.Proofs.Ytgoleefkbjjidaa

/- Rows of bytes, and an append of any slice that is only read onto a row that is owned. No program in it. -/
namespace Go.Proofs.Ytgoleefkbjjidaa
open Go.RowKit

def vU : VE UInt8 := fun _ c b => c = [.int .u8 b.toNat]
def sU : SE UInt8 := fun _ c b F => c = [.int .u8 b.toNat] ∧ F = []
instance : VMono vU := ⟨fun h => h⟩
instance : SMono sU := ⟨fun h b hb => by rw [h.2] at hb; simp at hb, fun h _ => h⟩
instance : SPlain sU := ⟨fun h => h.2⟩
theorem sU_v {w : World} (c : List Value) (d : UInt8) (F : List Nat) (h : sU w c d F) : vU w c d := h.1
theorem vU_s {w : World} (c : List Value) (d : UInt8) (h : vU w c d) : sU w c d [] := ⟨h, rfl⟩
theorem vU_1 {w : World} (c : List Value) (d : UInt8) (h : vU w c d) : ∀ u ∈ c, u.oneCell' = true := by
  simp only [vU] at h
  subst h
  simp [Value.oneCell']
abbrev RU := RV 1 vU

theorem addr_add (b o j : Nat) : (⟨b, o, none⟩ : Addr).add j = ⟨b, o + j, none⟩ := by
  unfold Addr.add
  split
  · rename_i h; subst h; rfl
  · rfl
theorem RV.cells {α : Type} {size : Nat} {V : VE α} {E : SE α} {w : World} (hVE : ∀ c d, V w c d → E w c d []) (h1 : ∀ c d, V w c d → ∀ u ∈ c, u.oneCell' = true) {b : Nat} :
    ∀ (es : List α) (o : Nat), (∀ j (h : j < es.length), ∃ c : List Value, c.length = size ∧ (∀ i (hi : i < c.length), w.cell? ⟨b, o + j * size + i, none⟩ = some c[i]) ∧ V w c es[j]) →
    ∃ cs : List Value, (∀ j u, cs[j]? = some u → w.cell? ((⟨b, o, none⟩ : Addr).add j) = some u) ∧ elems size E w cs es [] ∧ ∀ u ∈ cs, u.oneCell' = true
  | [], _, _ => ⟨[], by simp, ⟨rfl, rfl⟩, by simp⟩
  | e :: es, o, h => by
    obtain ⟨c, hc, hr, he⟩ := h 0 (by simp)
    obtain ⟨cs, k1, k2, k3⟩ := RV.cells hVE h1 es (o + size) (fun j hj => by
      obtain ⟨c, hc, hr, he⟩ := h (j + 1) (by simpa using hj)
      refine ⟨c, hc, fun i hi => ?_, by simpa using he⟩
      rw [← hr i hi]
      congr 2
      rw [Nat.add_mul]; omega)
    refine ⟨c ++ cs, fun j u hj => ?_, ⟨c, cs, [], [], rfl, hc, hVE _ _ he, k2, rfl⟩, fun u hu => ?_⟩
    · by_cases hlt : j < c.length
      · rw [List.getElem?_append_left hlt, List.getElem?_eq_getElem hlt] at hj
        injection hj with hj
        have := hr j hlt
        simp at this
        rw [← hj, ← this, addr_add]
      · rw [List.getElem?_append_right (by omega)] at hj
        have := k1 _ u hj
        rw [← this, addr_add, addr_add]
        congr 2
        omega
    · rcases List.mem_append.1 hu with h | h
      · exact h1 _ _ he u h
      · exact k3 u h

section
variable {P : Program} {w : World}
/-- 'append(out, xs...)' -/
theorem wpList_appL {ops : Array Oper} {rest : List Oper} {o : Oper} {a : Act} {Q : Exit → Act → World → Prop} (hgd : o.guard = none) (s x : Operand) (t : TypeId)
    (ho : o.op = .call { callee := .builtin .append, args := #[s, x], argTypes := #[t, t] })
    {α : Type} {E : SE α} [SMono E] [SPlain E] {V : VE α} {te size bytes : Nat} {z : Value} (hT : SlT P t te size bytes z) {v : Value} {ds es : List α} {F : List Nat} (hs : a.eval s = v) (hS : SV te size E w v ds F)
    {A : Option Addr} {c : Nat} (hx : a.eval x = .slice A es.length c) (hc : A = none → c = 0) (hV : RV size V w A es) (hVE : ∀ c d, V w c d → E w c d []) (h1 : ∀ c d, V w c d → ∀ u ∈ c, u.oneCell' = true)
    (hlen : ds.length + es.length ≤ 2000000000) (hby : bytes ≤ 60000)
    (h : ∀ v' w' F', SV te size E w' v' (ds ++ es) F' → Chg F w w' → (∀ b ∈ F', b ∈ F ∨ w.heap.size ≤ b) → wpList P ops Q rest (a.put o.dst v') w') : wpList P ops Q (o :: rest) a w := by
  cases A with
  | none =>
    have e0 : es = [] := Classical.byContradiction fun hn => by
      obtain ⟨b, o, h, _⟩ := hV hn
      cases h
    subst e0
    obtain ⟨ht, hi, _, _⟩ := hT
    obtain ⟨i, hi, _, _, _⟩ := info_parts hi
    rw [hc rfl] at hx
    have hS' := hS
    obtain ⟨vs, F2, ho', _, _⟩ := hS'
    exact wpList_append_own_none hgd s x t ho 0 te i size ht hi v ds.length vs hs ho' hx (h v w F (by simpa using hS) (Chg.refl F w) fun b hb => .inl hb)
  | some ad =>
    have hN := hS.nodup
    have key : ∃ cs : List Value, (∀ j u, cs[j]? = some u → w.cell? (ad.add j) = some u) ∧ elems size E w cs es [] ∧ ∀ u ∈ cs, u.oneCell' = true := by
      by_cases hn : es = []
      · subst hn
        exact ⟨[], by simp, ⟨rfl, rfl⟩, by simp⟩
      · obtain ⟨b, o, e, _, h3⟩ := hV hn
        injection e with e
        subst e
        exact RV.cells hVE h1 es o h3
    obtain ⟨cs, k1, k2, k3⟩ := key
    refine wpList_appS _ hgd s x t ho hT hs hS hN hx k1 k3 rfl k2 (by simpa using hN) hlen hby ?_
    intro v' w' F' h2 h3 _ h5
    exact h v' w' F' h2 h3 fun b hb => by
      rcases h5 b hb with h | h | h
      · exact .inl h
      · simp at h
      · exact .inr h
/-- a row of one element, just made -/
theorem SV.fresh1 {α : Type} {te : Nat} {E : SE α} {u : Value} {d : α} (w : World) (h : E (w.alloc (.cells #[u] te)) [u] d []) : SV te 1 E (w.alloc (.cells #[u] te)) (.slice (some ⟨w.heap.size, 0, none⟩) 1 1) [d] [w.heap.size] :=
  ⟨[u], [], ⟨by simp, .inr ⟨w.heap.size, 1, #[u], rfl, Nat.zero_le _, heap_alloc_new w _, Nat.le_refl _, by simp [maxLen], by simp, by simp⟩⟩, elems_one rfl h, rfl⟩
theorem SV.cap0 {α : Type} {te size : Nat} {E : SE α} {ds : List α} {F : List Nat} {A : Option Addr} {n c : Nat} (h : SV te size E w (.slice A n c) ds F) (hA : A = none) : c = 0 := by
  obtain ⟨vs, F2, h1, _, _⟩ := h
  rcases h1.2 with ⟨h2, _⟩ | ⟨g, cap, cur, h2, _⟩
  · injection h2
  · injection h2 with h2
    rw [hA] at h2; cases h2
/-- the text of a row of bytes -/
theorem strOfNums_map (ds : List UInt8) : strOfNums (ds.map fun b => (b.toNat : Int)) = ⟨ds.toArray⟩ := by
  unfold strOfNums
  congr 1
  apply Array.ext'
  simp only [List.map_map]
  conv => rhs; rw [← List.map_id ds]
  congr 1
  funext b
  simp
theorem convV {src e dst : TypeId} (hs : P.underlying src = some (.slice e)) (he : P.underlying e = some (.int .u8)) (hd : P.underlying dst = some .string) {A : Option Addr} {ds : List UInt8} {n c : Nat} (hn : ds.length = n) (h : RU w A ds) :
    (convert src dst (.slice A n c)).run P w = .ok (.string ⟨ds.toArray⟩) w := by
  subst hn
  by_cases hn : ds = []
  · subst hn
    cases A with
    | none => exact run_convert_bytes_nil w src e hs he 0 c dst hd
    | some ad =>
      obtain ⟨b, o, s⟩ := ad
      rw [run_convert_bytes_string w src dst e _ _ _ hs he hd]
      simp [Conv.bytesToString, loadCells, Sem.run_bind]
      rfl
  · obtain ⟨b, o, rfl, _, h3⟩ := h hn
    rw [← strOfNums_map]
    refine run_convert_bytes_arg w src e hs he b o ds.length c _ (by simp) (fun i hi => ?_) dst hd
    obtain ⟨c, hc, hr, he⟩ := h3 i hi
    simp only [vU] at he
    subst he
    have := hr 0 (by simp)
    simp at this
    rw [this]
    simp [List.getD_eq_getElem?_getD, hi]
end
end Go.Proofs.Ytgoleefkbjjidaa

/- Appending any slice that is only read onto a row that is owned, at a step of a region that draws its order. No program in it. -/
namespace Go.Proofs.Ytgoleefkbjjidaa
open Go.RowKit
section
variable {P : Program} {w : World}
theorem wp_appL {o : Oper} {a : Act} {K : Act → World → Prop} {Q : Exit → Act → World → Prop} (s x : Operand) (t : TypeId)
    (ho : o.op = .call { callee := .builtin .append, args := #[s, x], argTypes := #[t, t] })
    {α : Type} {E : SE α} [SMono E] [SPlain E] {V : VE α} {te size bytes : Nat} {z : Value} (hT : SlT P t te size bytes z) {v : Value} {ds es : List α} {F : List Nat} (hs : a.eval s = v) (hS : SV te size E w v ds F)
    {A : Option Addr} {c m : Nat} (hx : a.eval x = .slice A m c) (hm : m = es.length) (hc : A = none → c = 0) (hV : RV size V w A es) (hVE : ∀ c d, V w c d → E w c d []) (h1 : ∀ c d, V w c d → ∀ u ∈ c, u.oneCell' = true)
    (hlen : ds.length + m ≤ 2000000000) (hby : bytes ≤ 60000)
    (h : ∀ v' w' F', SV te size E w' v' (ds ++ es) F' → Chg F w w' → (∀ b ∈ F', b ∈ F ∨ w.heap.size ≤ b) → K (a.put o.dst v') w') : o.wp P a w K Q := by
  subst hm
  cases A with
  | none =>
    have e0 : es = [] := Classical.byContradiction fun hn => by
      obtain ⟨b, o, h, _⟩ := hV hn
      cases h
    subst e0
    obtain ⟨ht, hi, _, _⟩ := hT
    obtain ⟨i, hi, _, _, _⟩ := info_parts hi
    rw [hc rfl] at hx
    have hS' := hS
    obtain ⟨vs, F2, ho', _, _⟩ := hS'
    have hrun := run_append_owned_none (P := P) (w := w) 0 t o.type te i size ht hi v ds.length vs ho'
    unfold Oper.wp execOp
    simp only [ho, resolve, invoke, builtin, Sem.run_bind, Sem.run_pure, Result.andThen_ok, List.map_toArray, List.map_cons, List.map_nil, hs, hx, List.length_nil, hrun]
    exact h v w F (by simpa using hS) (Chg.refl F w) fun b hb => .inl hb
  | some ad =>
    have hN := hS.nodup
    have key : ∃ cs : List Value, (∀ j u, cs[j]? = some u → w.cell? (ad.add j) = some u) ∧ elems size E w cs es [] ∧ ∀ u ∈ cs, u.oneCell' = true := by
      by_cases hn : es = []
      · subst hn
        exact ⟨[], by simp, ⟨rfl, rfl⟩, by simp⟩
      · obtain ⟨b, o, e, _, h3⟩ := hV hn
        injection e with e
        subst e
        exact RV.cells hVE h1 es o h3
    obtain ⟨cs, k1, k2, k3⟩ := key
    refine wp_appS _ s x t ho hT hs hS hN hx k1 k3 rfl k2 (by simpa using hN) hlen hby ?_
    intro v' w' F' h2 h3 _ h5
    exact h v' w' F' h2 h3 fun b hb => by
      rcases h5 b hb with h | h | h
      · exact .inl h
      · simp at h
      · exact .inr h
theorem step_appL {ops : Array Oper} {o : Oper} {a : Act} {K : Act → World → Prop} {Q : Exit → Act → World → Prop} {X : Prop} (hgd : o.guard = none) (s x : Operand) (t : TypeId)
    (ho : o.op = .call { callee := .builtin .append, args := #[s, x], argTypes := #[t, t] })
    {α : Type} {E : SE α} [SMono E] [SPlain E] {V : VE α} {te size bytes : Nat} {z : Value} (hT : SlT P t te size bytes z) {v : Value} {ds es : List α} {F : List Nat} (hs : a.eval s = v) (hS : SV te size E w v ds F)
    {A : Option Addr} {c m : Nat} (hx : a.eval x = .slice A m c) (hm : m = es.length) (hc : A = none → c = 0) (hV : RV size V w A es) (hVE : ∀ c d, V w c d → E w c d []) (h1 : ∀ c d, V w c d → ∀ u ∈ c, u.oneCell' = true)
    (hlen : ds.length + m ≤ 2000000000) (hby : bytes ≤ 60000)
    (h : ∀ v' w' F', SV te size E w' v' (ds ++ es) F' → Chg F w w' → (∀ b ∈ F', b ∈ F ∨ w.heap.size ≤ b) → K (a.put o.dst v') w') :
    if Region.wanted o (yielded ops a.tmps) = true then Oper.wp P o a w K Q else X := by
  have hwt : Region.wanted o (yielded ops a.tmps) = true := by simp [Region.wanted, hgd]
  rw [if_pos hwt]
  exact wp_appL s x t ho hT hs hS hx hm hc hV hVE h1 hlen hby h
theorem vI_s {w : World} (c : List Value) (d : Int) (h : vI w c d) : sI w c d [] := ⟨h, rfl⟩
theorem vI_1 {w : World} (c : List Value) (d : Int) (h : vI w c d) : ∀ u ∈ c, u.oneCell' = true := by
  simp only [vI] at h
  subst h
  simp [Value.oneCell']
/-- the slice of one number just made reads so -/
theorem RI.one {w : World} {B : Nat} {n : Int} (h : BoxAt w B #[.int .i64 n]) : RI w (some ⟨B, 0, none⟩) [n] := fun _ => ⟨B, 0, rfl, h.1, fun j hj => by
  have : j = 0 := by simpa using hj
  subst this
  refine ⟨[.int .i64 n], rfl, fun i hi => ?_, rfl⟩
  have : i = 0 := by simpa using hi
  subst this
  have := h.2.1 0
  simpa using this⟩
end
end Go.Proofs.Ytgoleefkbjjidaa

/- Appending any slice that is only read, nil or not, whatever its capacity says. No program in it. -/
namespace Go.Proofs.Ytgoleefkbjjidaa
open Go.RowKit
section
variable {P : Program} {w : World}
theorem run_append_none_c (base : Nat) (t ty e : TypeId) (i : TypeInfo) (size c : Nat) (ht : P.underlying t = some (.slice e)) (hi : P.info? e = some i)
    (v : Value) (n : Nat) (xs : List Value) (hown : w.ownsRow base e size v n xs) : (Builtin.append_ #[t, t] ty #[v, .slice none 0 c]).run P w = .ok v w := by
  rcases hown.2 with ⟨rfl, rfl⟩ | ⟨g, cap, cur, rfl, _, _, hnc, _⟩
  · simp [Builtin.append_, run_underlying ht, sizeOf, typeInfo, hi, Builtin.lenOf, Builtin.firstCells]
  · simp [Builtin.append_, run_underlying ht, sizeOf, typeInfo, hi, Builtin.lenOf, Builtin.firstCells, hnc, storeCells]
theorem wp_appV {o : Oper} {a : Act} {K : Act → World → Prop} {Q : Exit → Act → World → Prop} (s x : Operand) (t : TypeId)
    (ho : o.op = .call { callee := .builtin .append, args := #[s, x], argTypes := #[t, t] })
    {α : Type} {E : SE α} [SMono E] [SPlain E] {V : VE α} {te size bytes : Nat} {z : Value} (hT : SlT P t te size bytes z) {v : Value} {ds es : List α} {F : List Nat} (hs : a.eval s = v) (hS : SV te size E w v ds F)
    {A : Option Addr} {c m : Nat} (hx : a.eval x = .slice A m c) (hm : m = es.length) (hV : RV size V w A es) (hVE : ∀ c d, V w c d → E w c d []) (h1 : ∀ c d, V w c d → ∀ u ∈ c, u.oneCell' = true)
    (hlen : ds.length + m ≤ 2000000000) (hby : bytes ≤ 60000)
    (h : ∀ v' w' F', SV te size E w' v' (ds ++ es) F' → Chg F w w' → (∀ b ∈ F', b ∈ F ∨ w.heap.size ≤ b) → K (a.put o.dst v') w') : o.wp P a w K Q := by
  cases A with
  | some ad => exact wp_appL s x t ho hT hs hS hx hm (fun h => by cases h) hV hVE h1 hlen hby h
  | none =>
    have e0 : es = [] := Classical.byContradiction fun hn => by
      obtain ⟨b, o, h, _⟩ := hV hn
      cases h
    subst e0
    subst hm
    obtain ⟨ht, hi, _, _⟩ := hT
    obtain ⟨i, hi, _, _, _⟩ := info_parts hi
    have hS' := hS
    obtain ⟨vs, F2, ho', _, _⟩ := hS'
    have hrun := run_append_none_c (P := P) (w := w) 0 t o.type te i size c ht hi v ds.length vs ho'
    unfold Oper.wp execOp
    simp only [ho, resolve, invoke, builtin, Sem.run_bind, Sem.run_pure, Result.andThen_ok, List.map_toArray, List.map_cons, List.map_nil, hs, hx, List.length_nil, hrun]
    exact h v w F (by simpa using hS) (Chg.refl F w) fun b hb => .inl hb
theorem step_appV {ops : Array Oper} {o : Oper} {a : Act} {K : Act → World → Prop} {Q : Exit → Act → World → Prop} {X : Prop} (hgd : o.guard = none) (s x : Operand) (t : TypeId)
    (ho : o.op = .call { callee := .builtin .append, args := #[s, x], argTypes := #[t, t] })
    {α : Type} {E : SE α} [SMono E] [SPlain E] {V : VE α} {te size bytes : Nat} {z : Value} (hT : SlT P t te size bytes z) {v : Value} {ds es : List α} {F : List Nat} (hs : a.eval s = v) (hS : SV te size E w v ds F)
    {A : Option Addr} {c m : Nat} (hx : a.eval x = .slice A m c) (hm : m = es.length) (hV : RV size V w A es) (hVE : ∀ c d, V w c d → E w c d []) (h1 : ∀ c d, V w c d → ∀ u ∈ c, u.oneCell' = true)
    (hlen : ds.length + m ≤ 2000000000) (hby : bytes ≤ 60000)
    (h : ∀ v' w' F', SV te size E w' v' (ds ++ es) F' → Chg F w w' → (∀ b ∈ F', b ∈ F ∨ w.heap.size ≤ b) → K (a.put o.dst v') w') :
    if Region.wanted o (yielded ops a.tmps) = true then Oper.wp P o a w K Q else X := by
  have hwt : Region.wanted o (yielded ops a.tmps) = true := by simp [Region.wanted, hgd]
  rw [if_pos hwt]
  exact wp_appV s x t ho hT hs hS hx hm hV hVE h1 hlen hby h
theorem wpList_appV {ops : Array Oper} {rest : List Oper} {o : Oper} {a : Act} {Q : Exit → Act → World → Prop} (hgd : o.guard = none) (s x : Operand) (t : TypeId)
    (ho : o.op = .call { callee := .builtin .append, args := #[s, x], argTypes := #[t, t] })
    {α : Type} {E : SE α} [SMono E] [SPlain E] {V : VE α} {te size bytes : Nat} {z : Value} (hT : SlT P t te size bytes z) {v : Value} {ds es : List α} {F : List Nat} (hs : a.eval s = v) (hS : SV te size E w v ds F)
    {A : Option Addr} {c m : Nat} (hx : a.eval x = .slice A m c) (hm : m = es.length) (hV : RV size V w A es) (hVE : ∀ c d, V w c d → E w c d []) (h1 : ∀ c d, V w c d → ∀ u ∈ c, u.oneCell' = true)
    (hlen : ds.length + m ≤ 2000000000) (hby : bytes ≤ 60000)
    (h : ∀ v' w' F', SV te size E w' v' (ds ++ es) F' → Chg F w w' → (∀ b ∈ F', b ∈ F ∨ w.heap.size ≤ b) → wpList P ops Q rest (a.put o.dst v') w') : wpList P ops Q (o :: rest) a w :=
  wpList_plain hgd fun _ hK => wp_appV s x t ho hT hs hS hx hm hV hVE h1 hlen hby fun v' w' F' h2 h3 h5 => hK _ _ (h v' w' F' h2 h3 h5)
end
/-- an element that is only seen in a world of old: it owns nothing -/
def sOld {α : Type} (V : VE α) (W : World) : SE α := fun _ c d F => V W c d ∧ F = []
instance {α : Type} (V : VE α) (W : World) : SMono (sOld V W) := ⟨fun h b hb => by rw [h.2] at hb; simp at hb, fun h _ => h⟩
instance {α : Type} (V : VE α) (W : World) : SPlain (sOld V W) := ⟨fun h => h.2⟩
theorem sOld_v {α : Type} {V : VE α} [VMono V] {W w : World} (hx : ∃ y, w = ext W y) (c : List Value) (d : α) (F : List Nat) (h : sOld V W w c d F) : V w c d := by
  obtain ⟨y, rfl⟩ := hx
  exact VMono.ext h.1
theorem copyInts_v {A : Option Addr} {c : Nat} {xs : List Int} {w : World} (hx : xs.length ≤ 1000000000) (h1 : RI w A xs) :
    Calls Try.prog 68 #[.slice A xs.length c] w fun e w' => ∃ v F, e = .returned v ∧ (∃ y, w' = ext w y) ∧ SV 3 1 sI w' v xs F ∧ ∀ b ∈ F, w.heap.size ≤ b := by
  have hS0 := SV.empty (α := Int) (te := 3) (size := 1) (E := sI) w
  go_enter Try.func68, Try.ntmps68
  go_wp2_with (at_builtin; refine wpList_appV (E := sI) (V := vI) (es := xs) rfl _ _ _ rfl tI rfl hS0 rfl rfl (h1.toExt (by refine Chg.isExt (F := []) ?_ (refl_ext _) (by simp); repeat (with_reducible (first | exact Chg.refl _ _ | exact Nat.le_refl _ | exact Chg.ofExt (by assumption) | refine Chg.trans0 ?_ (by assumption) | refine Chg.extS ?_ _ | refine Chg.alloc ?_ _ | refine Chg.drew ?_ | refine Chg.setCellE ?_ ?_ _ | refine le_addk ?_ _ | refine le_ext ?_ | refine le_alloc ?_ _ | refine le_setC ?_ _ _ | refine le_drew ?_ | assumption | (refine Nat.le_of_lt ?_; omega) | omega)))) vI_s vI_1 (by simp; omega) (by omega) ?_; intro v' w' F' hS hC hF)
  go_ret
  exact ⟨_, F', rfl, hC.isExt (by refine Chg.isExt (F := []) ?_ (refl_ext _) (by simp); repeat (with_reducible (first | exact Chg.refl _ _ | exact Nat.le_refl _ | exact Chg.ofExt (by assumption) | refine Chg.trans0 ?_ (by assumption) | refine Chg.extS ?_ _ | refine Chg.alloc ?_ _ | refine Chg.drew ?_ | refine Chg.setCellE ?_ ?_ _ | refine le_addk ?_ _ | refine le_ext ?_ | refine le_alloc ?_ _ | refine le_setC ?_ _ _ | refine le_drew ?_ | assumption | (refine Nat.le_of_lt ?_; omega) | omega))) (by simp), by simpa using hS, fun b hb => by
    rcases hF b hb with h | h
    · simp at h; omega
    · simp at h; omega⟩
end Go.Proofs.Ytgoleefkbjjidaa

/- Whether a relation is valid, the reference's way; whether a labeled relation is valid, the program's way and the reference's. -/
namespace Go.Proofs.Ytgoleefkbjjidaa
open Go.RowKit

set_option maxRecDepth 100000 in
set_option maxHeartbeats 16000000 in
theorem specIsValidRelation_w {a : Int} {A : Option Addr} {c : Nat} {rows : List (List Int)} {w : World} (hx : rows.length ≤ 1000000000) (hxl : ∀ x ∈ rows, x.length ≤ 1000000000) (h1 : RII w A rows) :
    Calls Try.prog 118 #[.agg #[.int .i64 a, .slice A rows.length c]] w fun e w' => e = .returned (.bool (rowsB a rows)) ∧ ∃ y, w' = ext w y := by
  have HL := Lib.hid (rows_lenW hxl)
  clear hxl
  obtain ⟨t1, ht1⟩ : ∃ t, inB a 0 5 = t := ⟨_, rfl⟩
  have N1 := Lib.hid ht1
  have HE := Lib.hid (show rowsB a rows = (t1 && decide (rows.length ≤ 4000) && allN (rowOk a rows) rows.length 0) by unfold rowsB; rw [ht1])
  clear ht1
  go_enter Try.func118, Try.ntmps118
  go_upto_region 1 with fail
  refine wp_name ?_
  intro W hW
  have xW : ∃ y, W = ext w y := by rw [hW.out]; exact (by refine Chg.isExt (F := []) ?_ (refl_ext _) (by simp); repeat (with_reducible (first | exact Chg.refl _ _ | exact Nat.le_refl _ | exact Chg.ofExt (by assumption) | refine Chg.trans0 ?_ (by assumption) | refine Chg.extS ?_ _ | refine Chg.alloc ?_ _ | refine Chg.drew ?_ | refine Chg.setCellE ?_ ?_ _ | refine le_addk ?_ _ | refine le_ext ?_ | refine le_alloc ?_ _ | refine le_setC ?_ _ _ | refine le_drew ?_ | assumption | (refine Nat.le_of_lt ?_; omega) | omega)))
  have BW0 : BoxAt W (w.heap.size) #[.int .i64 a, .slice A rows.length c] := by rw [hW.out]; refine ⟨?_, fun j => ?_, fun j => ?_⟩ <;> go_simp
  obtain ⟨lW0, bW0, fW0⟩ := BW0
  have cW0_0 : W.cell? ⟨w.heap.size, 0, none⟩ = some (.int .i64 a) := bW0 0
  have cW0_1 : W.cell? ⟨w.heap.size, 1, none⟩ = some (.slice A rows.length c) := bW0 1
  clear hW
  have PW : BoxAt W w.heap.size #[.int .i64 a, .slice A rows.length c] := ⟨lW0, bW0, fW0⟩
  cases t1 with
  | false =>
    go_wp2_with (go_at_call 117; refine (l1In_any _ _ _ _).mono ?_; rintro e w' ⟨rfl, rfl⟩; rw [N1.out])
    go_ret
    exact ⟨by rw [HE.out]; rfl, xW⟩
  | true =>
    by_cases h4 : rows.length ≤ 4000
    · have HE2 := Lib.hid (show rowsB a rows = allN (rowOk a rows) rows.length 0 by rw [HE.out, decide_eq_true h4]; simp)
      go_wp2_with (go_at_call 117; refine (l1In_any _ _ _ _).mono ?_; rintro e w' ⟨rfl, rfl⟩; rw [N1.out])
      clear lW0 bW0 fW0 cW0_0 cW0_1
      go_loopw [3] (fun i wr => ∃ k : Nat, i = .int .i64 k ∧ k ≤ rows.length ∧ (∃ y, wr = ext W y) ∧ Hid (allN (rowOk a rows) (rows.length - k) k = allN (rowOk a rows) rows.length 0)) (fun i _ => rows.length - (intOf i).toNat)
      case atStart => exact ⟨0, rfl, by omega, refl_ext W, Lib.hid rfl⟩
      case round =>
        obtain ⟨k, rfl, hk, hy, Hj⟩ := hrel
        obtain ⟨l1, a1, a1', f1⟩ := bx2 (PW.toExt hy)
        by_cases hlt : k < rows.length
        · obtain ⟨b, o, rfl⟩ := h1.pl (by omega)
          have hyw := trans_ext xW hy
          obtain ⟨hb, A1, c1, hc, hv⟩ := (h1.toExt hyw).atV' hlt
          have e := Hj.out
          rw [allN_step hlt] at e
          obtain ⟨r, hr⟩ : ∃ r, rows.getD k [] = r := ⟨_, rfl⟩
          have lr := HL.out k
          rw [hr] at hc hv lr
          obtain ⟨t3, ht3⟩ : ∃ t, decide ((r.length : Int) = a) = t := ⟨_, rfl⟩
          obtain ⟨t4, ht4⟩ : ∃ t, rowV r = t := ⟨_, rfl⟩
          have q3 : ((r.length : Int) != a) = !t3 := by rw [← ht3]; by_cases q : (r.length : Int) = a <;> simp [q]
          have eR : rowOk a rows k = (t3 && t4 && (decide (k = 0) || decide (cmpL (rows.getD (k - 1) []) r < 0))) := by unfold rowOk; rw [hr, ht3, ht4]
          rw [eR] at e
          have N4 := Lib.hid ht4
          clear hr ht3 ht4 eR Hj
          have i0 : (0 : Int) ≤ (k : Int) := by omega
          have i1 : (k : Int) < (rows.length : Int) := by omega
          cases t3 with
          | false =>
            have HF := Lib.hid (rows_f (a := a) (rows := rows) (by rw [← e]; rfl))
            clear e
            go_wp2
            refine wp_region_ext (by kernel_rfl) (by kernel_rfl) ?_
            repeat (go_big_quiet_step ((go_at_call 121; exact quietSb (specAreValidValues_any lr hv.ext) N4.out)))
            refine wpQuiet_nil ?_
            rintro _ ⟨zz, rfl⟩
            go_wp2
            go_ret
            exact ⟨by rw [HF.out]; rfl, trans_ext hyw ⟨_, rfl⟩⟩
          | true =>
            cases t4 with
            | false =>
              have HF := Lib.hid (rows_f (a := a) (rows := rows) (by rw [← e]; rfl))
              clear e
              go_wp2
              refine wp_region_ext (by kernel_rfl) (by kernel_rfl) ?_
              repeat (go_big_quiet_step ((go_at_call 121; exact quietSb (specAreValidValues_any lr hv.ext) N4.out)))
              refine wpQuiet_nil ?_
              rintro _ ⟨zz, rfl⟩
              go_wp2
              go_ret
              exact ⟨by rw [HF.out]; rfl, trans_ext hyw ⟨_, rfl⟩⟩
            | true =>
              by_cases hk0 : 0 < k
              · obtain ⟨_, A2, c2, hc2, hv2⟩ := (h1.toExt hyw).atV' (k := k - 1) (by omega)
                have lr2 := HL.out (k - 1)
                obtain ⟨r2, hr2⟩ : ∃ r, rows.getD (k - 1) [] = r := ⟨_, rfl⟩
                rw [hr2] at hc2 hv2 lr2 e
                obtain ⟨C, hC⟩ : ∃ C, cmpL r2 r = C := ⟨_, rfl⟩
                rw [hC, decide_eq_false (show ¬ k = 0 by omega)] at e
                have HC := Lib.hid hC
                have k1 : (0 : Int) < (k : Int) := by omega
                have s0 : (0 : Int) ≤ (k : Int) - 1 := by omega
                have s1 : IntKind.i64.wrap ((k : Int) - 1) = (k : Int) - 1 := IntWalk.i64_in _ (by omega)
                have s2 : ((k : Int) - 1).toNat = k - 1 := by omega
                have s3 : (k : Int) - 1 < (rows.length : Int) := by omega
                clear hr2 hC
                by_cases hC0 : C < 0
                · have HK := Lib.hid (show allN (rowOk a rows) (rows.length - (k + 1)) (k + 1) = allN (rowOk a rows) rows.length 0 by rw [decide_eq_true hC0] at e; simpa using e)
                  have hC1 : (0 ≤ C) = False := by simp; omega
                  clear e
                  go_wp2
                  refine wp_region_ext (by kernel_rfl) (by kernel_rfl) ?_
                  repeat (go_big_quiet_step (first | (go_at_call 121; exact quietSb (specAreValidValues_any lr hv.ext) N4.out) | (go_at_call 74; exact quietEj (specCompareRows_any lr2 hv2.ext lr hv.ext) HC.out)))
                  refine wpQuiet_nil ?_
                  rintro _ ⟨zz, rfl⟩
                  clear s1
                  go_wp2
                  exact ⟨⟨k + 1, by go_num, by omega, trans_ext hy ⟨_, rfl⟩, HK⟩, by simp [intOf]; omega⟩
                · have HF := Lib.hid (rows_f (a := a) (rows := rows) (by rw [decide_eq_false hC0] at e; rw [← e]; rfl))
                  have hC1 : 0 ≤ C := by omega
                  clear e
                  go_wp2
                  refine wp_region_ext (by kernel_rfl) (by kernel_rfl) ?_
                  repeat (go_big_quiet_step (first | (go_at_call 121; exact quietSb (specAreValidValues_any lr hv.ext) N4.out) | (go_at_call 74; exact quietEj (specCompareRows_any lr2 hv2.ext lr hv.ext) HC.out)))
                  refine wpQuiet_nil ?_
                  rintro _ ⟨zz, rfl⟩
                  clear s1
                  go_wp2
                  go_ret
                  exact ⟨by rw [HF.out]; rfl, trans_ext hyw ⟨_, rfl⟩⟩
              · have HK := Lib.hid (show allN (rowOk a rows) (rows.length - (k + 1)) (k + 1) = allN (rowOk a rows) rows.length 0 by rw [decide_eq_true (show k = 0 by omega)] at e; simpa using e)
                have k1 : decide ((0 : Int) < (k : Int)) = false := decide_eq_false (by omega)
                clear e
                go_wp2
                refine wp_region_ext (by kernel_rfl) (by kernel_rfl) ?_
                repeat (go_big_quiet_step ((go_at_call 121; exact quietSb (specAreValidValues_any lr hv.ext) N4.out)))
                refine wpQuiet_nil ?_
                rintro _ ⟨zz, rfl⟩
                go_wp2
                exact ⟨⟨k + 1, by go_num, by omega, trans_ext hy ⟨_, rfl⟩, HK⟩, by simp [intOf]; omega⟩
        · have e := Hj.out
          rw [allN_end hlt] at e
          have HK := Lib.hid (show rowsB a rows = true by rw [HE2.out, ← e])
          clear e Hj
          go_wp2
          go_ret
          exact ⟨by rw [HK.out]; rfl, trans_ext xW hy⟩
    · have HE2 := Lib.hid (show rowsB a rows = false by rw [HE.out, decide_eq_false h4]; rfl)
      have h5 : 4000 < rows.length := by omega
      go_wp2_with (go_at_call 117; refine (l1In_any _ _ _ _).mono ?_; rintro e w' ⟨rfl, rfl⟩; rw [N1.out])
      go_ret
      exact ⟨by rw [HE2.out]; rfl, xW⟩
theorem specIsValidRelation_any {A : Option Addr} {c : Nat} {d : Rd} {w : World} (hb : BRel d) (h : vRel w [.int .i64 d.1, .slice A d.2.length c] d) :
    Calls Try.prog 118 #[.agg #[.int .i64 d.1, .slice A d.2.length c]] w fun e w' => e = .returned (.bool (rowsB d.1 d.2)) ∧ ∃ y, w' = ext w y :=
  specIsValidRelation_w (Nat.le_trans hb.2.1 (by omega)) hb.2.big (vII_get (vRel_get h).2).2
theorem RV.atJ {w : World} {b o : Nat} {d : List Int} (h : RI w (some ⟨b, o, none⟩) d) {k : Nat} (hk : k < d.length) : b < w.heap.size ∧ w.cell? ⟨b, o + k, none⟩ = some (.int .i64 (d.getD k 0)) := by
  obtain ⟨b', o', e, h1, h2⟩ := h.atI hk
  injection e with e
  injection e with e1 e2 _
  subst e1 e2
  exact ⟨h1, by rw [h2, List.getD_eq_getElem?_getD, List.getElem?_eq_getElem hk]; rfl⟩
set_option maxRecDepth 100000 in
set_option maxHeartbeats 8000000 in
theorem IsValidVarRelation_any {A B : Option Addr} {aa bb : Nat} {d : VRd} {w : World} (hb : BVR d) (h : vVR w [.slice A d.1.length aa, .int .i64 d.2.1, .slice B d.2.2.length bb] d) :
    Calls Try.prog 67 #[.agg #[.slice A d.1.length aa, .int .i64 d.2.1, .slice B d.2.2.length bb]] w fun e w' => e = .returned (.bool (vrB d)) ∧ ∃ y, w' = ext w y := by
  obtain ⟨r1, r2, _⟩ := vVR_get h
  obtain ⟨b1, b2⟩ := hb
  obtain ⟨vs, a, rows⟩ := d
  dsimp only at r1 r2 b1 b2 ⊢
  have HB2 := Lib.hid b2
  have HR2 := Lib.hid r2
  have m1 : vs.length ≤ 1000000000 := by omega
  clear h r2 b2
  have HE := Lib.hid (show vrB (vs, a, rows) = (varsB vs && rowsB a rows && decide (a = (vs.length : Int))) from rfl)
  obtain ⟨t8, ht8⟩ : ∃ t, rowsB a rows = t := ⟨_, rfl⟩
  obtain ⟨t9, ht9⟩ : ∃ t, decide (a = (vs.length : Int)) = t := ⟨_, rfl⟩
  have q9 : (a == (vs.length : Int)) = t9 := by rw [← ht9]; rfl
  have N8 := Lib.hid ht8
  have HE : Hid (vrB (vs, a, rows) = (allN (vars1 vs) vs.length 0 && t8 && t9)) := Lib.hid (by rw [HE.out, ht8, ht9]; rfl)
  clear ht8 ht9
  go_enter Try.func67, Try.ntmps67
  go_upto_region 1 with fail
  refine wp_name ?_
  intro W hW
  have xW : ∃ y, W = ext w y := by rw [hW.out]; exact (by refine Chg.isExt (F := []) ?_ (refl_ext _) (by simp); repeat (with_reducible (first | exact Chg.refl _ _ | exact Nat.le_refl _ | exact Chg.ofExt (by assumption) | refine Chg.trans0 ?_ (by assumption) | refine Chg.extS ?_ _ | refine Chg.alloc ?_ _ | refine Chg.drew ?_ | refine Chg.setCellE ?_ ?_ _ | refine le_addk ?_ _ | refine le_ext ?_ | refine le_alloc ?_ _ | refine le_setC ?_ _ _ | refine le_drew ?_ | assumption | (refine Nat.le_of_lt ?_; omega) | omega)))
  have BW0 : BoxAt W (w.heap.size) #[.slice A vs.length aa, .int .i64 a, .slice B rows.length bb] := by rw [hW.out]; refine ⟨?_, fun j => ?_, fun j => ?_⟩ <;> go_simp
  obtain ⟨lW0, bW0, fW0⟩ := BW0
  have cW0_0 : W.cell? ⟨w.heap.size, 0, none⟩ = some (.slice A vs.length aa) := bW0 0
  have cW0_1 : W.cell? ⟨w.heap.size, 1, none⟩ = some (.int .i64 a) := bW0 1
  have cW0_2 : W.cell? ⟨w.heap.size, 2, none⟩ = some (.slice B rows.length bb) := bW0 2
  clear hW
  go_wp2
  go_loop [8] (fun i => ∃ k : Nat, i = .int .i64 k ∧ k ≤ vs.length ∧ Hid (allN (vars1 vs) (vs.length - k) k = allN (vars1 vs) vs.length 0)) (fun i => vs.length - (intOf i).toNat)
  case atStart => exact ⟨0, rfl, by omega, Lib.hid rfl⟩
  case round =>
    obtain ⟨k, rfl, hk, Hj⟩ := hrel
    by_cases hlt : k < vs.length
    · obtain ⟨b, o, rfl⟩ := r1.pl (by omega)
      obtain ⟨hbb, hc⟩ := (r1.toExt xW).atJ hlt
      have e := Hj.out
      rw [allN_step hlt] at e
      obtain ⟨v, hv⟩ : ∃ v, vs.getD k 0 = v := ⟨_, rfl⟩
      rw [hv] at hc
      obtain ⟨t1, ht1⟩ : ∃ t, inB v 0 4 = t := ⟨_, rfl⟩
      have eV : vars1 vs k = (t1 && (decide (k = 0) || decide (vs.getD (k - 1) 0 < v))) := by unfold vars1; rw [hv, ht1]
      rw [eV] at e
      have N1 := Lib.hid ht1
      clear hv ht1 eV Hj
      have i0 : (0 : Int) ≤ (k : Int) := by omega
      have i1 : (k : Int) < (vs.length : Int) := by omega
      cases t1 with
      | false =>
        have HF := Lib.hid (show vrB (vs, a, rows) = false by rw [HE.out, ← e]; rfl)
        clear e
        go_wp2_with (go_at_call 119; refine (within_any _ _ _ _).mono ?_; rintro e w' ⟨rfl, rfl⟩; rw [N1.out])
        go_ret
        exact ⟨by rw [HF.out]; rfl, xW⟩
      | true =>
        by_cases hk0 : 0 < k
        · obtain ⟨_, hc2⟩ := (r1.toExt xW).atJ (k := k - 1) (by omega)
          obtain ⟨u, hu⟩ : ∃ u, vs.getD (k - 1) 0 = u := ⟨_, rfl⟩
          rw [hu] at hc2 e
          rw [decide_eq_false (show ¬ k = 0 by omega)] at e
          have s2 : ((k : Int) - 1).toNat = k - 1 := by omega
          clear hu
          by_cases huv : u < v
          · have HK := Lib.hid (show allN (vars1 vs) (vs.length - (k + 1)) (k + 1) = allN (vars1 vs) vs.length 0 by rw [decide_eq_true huv] at e; simpa using e)
            clear e
            go_wp2_with (go_at_call 119; refine (within_any _ _ _ _).mono ?_; rintro e w' ⟨rfl, rfl⟩; rw [N1.out])
            exact ⟨⟨k + 1, by go_num, by omega, HK⟩, by simp [intOf]; omega⟩
          · have HF := Lib.hid (show vrB (vs, a, rows) = false by rw [decide_eq_false huv] at e; rw [HE.out, ← e]; rfl)
            have h9 : v ≤ u := by omega
            clear e
            go_wp2_with (go_at_call 119; refine (within_any _ _ _ _).mono ?_; rintro e w' ⟨rfl, rfl⟩; rw [N1.out])
            go_ret
            exact ⟨by rw [HF.out]; rfl, xW⟩
        · have HK := Lib.hid (show allN (vars1 vs) (vs.length - (k + 1)) (k + 1) = allN (vars1 vs) vs.length 0 by rw [decide_eq_true (show k = 0 by omega)] at e; simpa using e)
          clear e
          go_wp2_with (go_at_call 119; refine (within_any _ _ _ _).mono ?_; rintro e w' ⟨rfl, rfl⟩; rw [N1.out])
          exact ⟨⟨k + 1, by go_num, by omega, HK⟩, by simp [intOf]; omega⟩
    · have e := Hj.out
      rw [allN_end hlt] at e
      have HK := Lib.hid (show vrB (vs, a, rows) = (t8 && t9) by rw [HE.out, ← e]; simp)
      clear e Hj
      cases t8 <;> (
        go_wp2_with (go_at_call 120; refine (IsValidRelation_any HB2.out (VD.toExt HR2.out (by refine Chg.isExt (F := []) ?_ (refl_ext _) (by simp); repeat (with_reducible (first | exact Chg.refl _ _ | exact Nat.le_refl _ | exact Chg.ofExt (by assumption) | refine Chg.trans0 ?_ (by assumption) | refine Chg.extS ?_ _ | refine Chg.alloc ?_ _ | refine Chg.drew ?_ | refine Chg.setCellE ?_ ?_ _ | refine le_addk ?_ _ | refine le_ext ?_ | refine le_alloc ?_ _ | refine le_setC ?_ _ _ | refine le_drew ?_ | assumption | (refine Nat.le_of_lt ?_; omega) | omega))))).mono ?_; rintro e w1 ⟨rfl, y1, rfl⟩; rw [N8.out])
        go_ret
        exact ⟨by rw [HK.out]; rfl, (by refine Chg.isExt (F := []) ?_ (refl_ext _) (by simp); repeat (with_reducible (first | exact Chg.refl _ _ | exact Nat.le_refl _ | exact Chg.ofExt (by assumption) | refine Chg.trans0 ?_ (by assumption) | refine Chg.extS ?_ _ | refine Chg.alloc ?_ _ | refine Chg.drew ?_ | refine Chg.setCellE ?_ ?_ _ | refine le_addk ?_ _ | refine le_ext ?_ | refine le_alloc ?_ _ | refine le_setC ?_ _ _ | refine le_drew ?_ | assumption | (refine Nat.le_of_lt ?_; omega) | omega)))⟩)
set_option maxRecDepth 100000 in
set_option maxHeartbeats 16000000 in
theorem specIsValidVarRelation_any {A B : Option Addr} {aa bb : Nat} {d : VRd} {w : World} (hb : BVR d) (h : vVR w [.slice A d.1.length aa, .int .i64 d.2.1, .slice B d.2.2.length bb] d) :
    Calls Try.prog 62 #[.agg #[.slice A d.1.length aa, .int .i64 d.2.1, .slice B d.2.2.length bb]] w fun e w' => e = .returned (.bool (vrB d)) ∧ ∃ y, w' = ext w y := by
  obtain ⟨r1, r2, _⟩ := vVR_get h
  obtain ⟨b1, b2⟩ := hb
  obtain ⟨vs, a, rows⟩ := d
  dsimp only at r1 r2 b1 b2 ⊢
  have HB2 := Lib.hid b2
  have HR2 := Lib.hid r2
  have m1 : vs.length ≤ 1000000000 := by omega
  clear h r2 b2
  have HE := Lib.hid (show vrB (vs, a, rows) = (varsB vs && rowsB a rows && decide (a = (vs.length : Int))) from rfl)
  obtain ⟨t8, ht8⟩ : ∃ t, rowsB a rows = t := ⟨_, rfl⟩
  obtain ⟨t9, ht9⟩ : ∃ t, decide (a = (vs.length : Int)) = t := ⟨_, rfl⟩
  have q9 : (a == (vs.length : Int)) = t9 := by rw [← ht9]; rfl
  have N8 := Lib.hid ht8
  have HE : Hid (vrB (vs, a, rows) = (allN (vars1 vs) vs.length 0 && t8 && t9)) := Lib.hid (by rw [HE.out, ht8, ht9]; rfl)
  clear ht8 ht9
  go_enter Try.func62, Try.ntmps62
  go_upto_region 1 with fail
  refine wp_name ?_
  intro W hW
  have xW : ∃ y, W = ext w y := by rw [hW.out]; exact (by refine Chg.isExt (F := []) ?_ (refl_ext _) (by simp); repeat (with_reducible (first | exact Chg.refl _ _ | exact Nat.le_refl _ | exact Chg.ofExt (by assumption) | refine Chg.trans0 ?_ (by assumption) | refine Chg.extS ?_ _ | refine Chg.alloc ?_ _ | refine Chg.drew ?_ | refine Chg.setCellE ?_ ?_ _ | refine le_addk ?_ _ | refine le_ext ?_ | refine le_alloc ?_ _ | refine le_setC ?_ _ _ | refine le_drew ?_ | assumption | (refine Nat.le_of_lt ?_; omega) | omega)))
  have BW0 : BoxAt W (w.heap.size) #[.slice A vs.length aa, .int .i64 a, .slice B rows.length bb] := by rw [hW.out]; refine ⟨?_, fun j => ?_, fun j => ?_⟩ <;> go_simp
  obtain ⟨lW0, bW0, fW0⟩ := BW0
  have cW0_0 : W.cell? ⟨w.heap.size, 0, none⟩ = some (.slice A vs.length aa) := bW0 0
  have cW0_1 : W.cell? ⟨w.heap.size, 1, none⟩ = some (.int .i64 a) := bW0 1
  have cW0_2 : W.cell? ⟨w.heap.size, 2, none⟩ = some (.slice B rows.length bb) := bW0 2
  clear hW
  have PW : BoxAt W w.heap.size #[.slice A vs.length aa, .int .i64 a, .slice B rows.length bb] := ⟨lW0, bW0, fW0⟩
  go_wp2
  clear lW0 bW0 fW0 cW0_0 cW0_1 cW0_2
  go_loopw [3] (fun i wr => ∃ k : Nat, i = .int .i64 k ∧ k ≤ vs.length ∧ (∃ y, wr = ext W y) ∧ Hid (allN (vars1 vs) (vs.length - k) k = allN (vars1 vs) vs.length 0)) (fun i _ => vs.length - (intOf i).toNat)
  case atStart => exact ⟨0, rfl, by omega, refl_ext W, Lib.hid rfl⟩
  case round =>
    obtain ⟨k, rfl, hk, hy, Hj⟩ := hrel
    obtain ⟨l1, a1, a1', a1'', f1⟩ := box3 (PW.toExt hy)
    have hyw := trans_ext xW hy
    by_cases hlt : k < vs.length
    · obtain ⟨b, o, rfl⟩ := r1.pl (by omega)
      obtain ⟨hbb, hc⟩ := (r1.toExt hyw).atJ hlt
      have e := Hj.out
      rw [allN_step hlt] at e
      obtain ⟨v, hv⟩ : ∃ v, vs.getD k 0 = v := ⟨_, rfl⟩
      rw [hv] at hc
      obtain ⟨t1, ht1⟩ : ∃ t, inB v 0 4 = t := ⟨_, rfl⟩
      have eV : vars1 vs k = (t1 && (decide (k = 0) || decide (vs.getD (k - 1) 0 < v))) := by unfold vars1; rw [hv, ht1]
      rw [eV] at e
      have N1 := Lib.hid ht1
      clear hv ht1 eV Hj
      have i0 : (0 : Int) ≤ (k : Int) := by omega
      have i1 : (k : Int) < (vs.length : Int) := by omega
      cases t1 with
      | false =>
        have HF := Lib.hid (show vrB (vs, a, rows) = false by rw [HE.out, ← e]; rfl)
        clear e
        go_wp2
        refine wp_region_ext (by kernel_rfl) (by kernel_rfl) ?_
        repeat (go_big_quiet_step ((go_at_call 117; exact quietSb (l1In_any _ _ _ _) N1.out)))
        refine wpQuiet_nil ?_
        rintro _ ⟨zz, rfl⟩
        go_wp2
        go_ret
        exact ⟨by rw [HF.out]; rfl, trans_ext hyw ⟨_, rfl⟩⟩
      | true =>
        by_cases hk0 : 0 < k
        · obtain ⟨_, hc2⟩ := (r1.toExt hyw).atJ (k := k - 1) (by omega)
          obtain ⟨u, hu⟩ : ∃ u, vs.getD (k - 1) 0 = u := ⟨_, rfl⟩
          rw [hu] at hc2 e
          rw [decide_eq_false (show ¬ k = 0 by omega)] at e
          have k1 : (0 : Int) < (k : Int) := by omega
          have s0 : (0 : Int) ≤ (k : Int) - 1 := by omega
          have s1 : IntKind.i64.wrap ((k : Int) - 1) = (k : Int) - 1 := IntWalk.i64_in _ (by omega)
          have s2 : ((k : Int) - 1).toNat = k - 1 := by omega
          have s3 : (k : Int) - 1 < (vs.length : Int) := by omega
          clear hu
          by_cases huv : u < v
          · have HK := Lib.hid (show allN (vars1 vs) (vs.length - (k + 1)) (k + 1) = allN (vars1 vs) vs.length 0 by rw [decide_eq_true huv] at e; simpa using e)
            have h9 : (v ≤ u) = False := by simp; omega
            clear e
            go_wp2
            refine wp_region_ext (by kernel_rfl) (by kernel_rfl) ?_
            repeat (go_big_quiet_step ((go_at_call 117; exact quietSb (l1In_any _ _ _ _) N1.out)))
            refine wpQuiet_nil ?_
            rintro _ ⟨zz, rfl⟩
            clear s1
            go_wp2
            exact ⟨⟨k + 1, by go_num, by omega, trans_ext hy ⟨_, rfl⟩, HK⟩, by simp [intOf]; omega⟩
          · have HF := Lib.hid (show vrB (vs, a, rows) = false by rw [decide_eq_false huv] at e; rw [HE.out, ← e]; rfl)
            have h9 : v ≤ u := by omega
            clear e
            go_wp2
            refine wp_region_ext (by kernel_rfl) (by kernel_rfl) ?_
            repeat (go_big_quiet_step ((go_at_call 117; exact quietSb (l1In_any _ _ _ _) N1.out)))
            refine wpQuiet_nil ?_
            rintro _ ⟨zz, rfl⟩
            clear s1
            go_wp2
            go_ret
            exact ⟨by rw [HF.out]; rfl, trans_ext hyw ⟨_, rfl⟩⟩
        · have HK := Lib.hid (show allN (vars1 vs) (vs.length - (k + 1)) (k + 1) = allN (vars1 vs) vs.length 0 by rw [decide_eq_true (show k = 0 by omega)] at e; simpa using e)
          have k1 : decide ((0 : Int) < (k : Int)) = false := decide_eq_false (by omega)
          clear e
          go_wp2
          refine wp_region_ext (by kernel_rfl) (by kernel_rfl) ?_
          repeat (go_big_quiet_step ((go_at_call 117; exact quietSb (l1In_any _ _ _ _) N1.out)))
          refine wpQuiet_nil ?_
          rintro _ ⟨zz, rfl⟩
          go_wp2
          exact ⟨⟨k + 1, by go_num, by omega, trans_ext hy ⟨_, rfl⟩, HK⟩, by simp [intOf]; omega⟩
    · have e := Hj.out
      rw [allN_end hlt] at e
      have HK := Lib.hid (show vrB (vs, a, rows) = (t8 && t9) by rw [HE.out, ← e]; simp)
      clear e Hj
      cases t8 <;> (
        go_wp2_with (go_at_call 118; refine (specIsValidRelation_any HB2.out (VD.toExt HR2.out (by refine Chg.isExt (F := []) ?_ (refl_ext _) (by simp); repeat (with_reducible (first | exact Chg.refl _ _ | exact Nat.le_refl _ | exact Chg.ofExt (by assumption) | refine Chg.trans0 ?_ (by assumption) | refine Chg.extS ?_ _ | refine Chg.alloc ?_ _ | refine Chg.drew ?_ | refine Chg.setCellE ?_ ?_ _ | refine le_addk ?_ _ | refine le_ext ?_ | refine le_alloc ?_ _ | refine le_setC ?_ _ _ | refine le_drew ?_ | assumption | (refine Nat.le_of_lt ?_; omega) | omega))))).mono ?_; rintro e w1 ⟨rfl, y1, rfl⟩; rw [N8.out])
        go_ret
        exact ⟨by rw [HK.out]; rfl, (by refine Chg.isExt (F := []) ?_ (refl_ext _) (by simp); repeat (with_reducible (first | exact Chg.refl _ _ | exact Nat.le_refl _ | exact Chg.ofExt (by assumption) | refine Chg.trans0 ?_ (by assumption) | refine Chg.extS ?_ _ | refine Chg.alloc ?_ _ | refine Chg.drew ?_ | refine Chg.setCellE ?_ ?_ _ | refine le_addk ?_ _ | refine le_ext ?_ | refine le_alloc ?_ _ | refine le_setC ?_ _ _ | refine le_drew ?_ | assumption | (refine Nat.le_of_lt ?_; omega) | omega)))⟩)
end Go.Proofs.Ytgoleefkbjjidaa

/- Contracts on atoms: the laws' helpers; membership; the variables of an atom; inclusion. -/
namespace Go.Proofs.Ytgoleefkbjjidaa
open Go.RowKit

def szA (left : Int) (s n : Nat) : Int := if left - s < 0 then -1 else szL (left - s) n
theorem szA_le {left : Int} {s n : Nat} (h : 0 ≤ szA left s n) : szA left s n ≤ left := by
  unfold szA at h ⊢
  split
  · simp_all
  · rename_i h1
    rw [if_neg h1] at h
    have := szL_le h
    omega
theorem szA_small {left : Int} {s n : Nat} (h : 0 ≤ szA left s n) : (s : Int) + n ≤ left := by
  unfold szA at h
  split at h
  · omega
  · have := szL_small h
    omega
theorem szAtom_any {s : ByteArray} {A : Option Addr} {n c : Nat} {left : Int} {w : World} (hs : s.size ≤ 9223372036854775807) (hn : n ≤ 9223372036854775807) (h1 : 0 ≤ left) (h2 : left ≤ 1000000000) :
    Calls Try.prog 47 #[.agg #[.string s, .slice A n c], .int .i64 left] w fun e w' => e = .returned (.int .i64 (szA left s.size n)) ∧ ∃ y, w' = ext w y := by
  unfold szA
  by_cases h : left - s.size < 0
  · rw [if_pos h]
    go_enter Try.func47, Try.ntmps47
    go_wp2_with fail
    go_ret
    exact ⟨rfl, (by refine Chg.isExt (F := []) ?_ (refl_ext _) (by simp); repeat (with_reducible (first | exact Chg.refl _ _ | exact Nat.le_refl _ | exact Chg.ofExt (by assumption) | refine Chg.trans0 ?_ (by assumption) | refine Chg.extS ?_ _ | refine Chg.alloc ?_ _ | refine Chg.drew ?_ | refine Chg.setCellE ?_ ?_ _ | refine le_addk ?_ _ | refine le_ext ?_ | refine le_alloc ?_ _ | refine le_setC ?_ _ _ | refine le_drew ?_ | assumption | (refine Nat.le_of_lt ?_; omega) | omega)))⟩
  · rw [if_neg h]
    by_cases h' : szL (left - s.size) n < 0
    · have e : szL (left - s.size) n = -1 := by unfold szL at h' ⊢; split <;> simp_all
      go_enter Try.func47, Try.ntmps47
      go_wp2_with (go_at_call 61; refine (szIntS_any hn (by omega) (by omega)).mono ?_; rintro e w' ⟨rfl, rfl⟩)
      go_ret
      exact ⟨by rw [e]; rfl, (by refine Chg.isExt (F := []) ?_ (refl_ext _) (by simp); repeat (with_reducible (first | exact Chg.refl _ _ | exact Nat.le_refl _ | exact Chg.ofExt (by assumption) | refine Chg.trans0 ?_ (by assumption) | refine Chg.extS ?_ _ | refine Chg.alloc ?_ _ | refine Chg.drew ?_ | refine Chg.setCellE ?_ ?_ _ | refine le_addk ?_ _ | refine le_ext ?_ | refine le_alloc ?_ _ | refine le_setC ?_ _ _ | refine le_drew ?_ | assumption | (refine Nat.le_of_lt ?_; omega) | omega)))⟩
    · go_enter Try.func47, Try.ntmps47
      go_wp2_with (go_at_call 61; refine (szIntS_any hn (by omega) (by omega)).mono ?_; rintro e w' ⟨rfl, rfl⟩)
      go_ret
      exact ⟨rfl, (by refine Chg.isExt (F := []) ?_ (refl_ext _) (by simp); repeat (with_reducible (first | exact Chg.refl _ _ | exact Nat.le_refl _ | exact Chg.ofExt (by assumption) | refine Chg.trans0 ?_ (by assumption) | refine Chg.extS ?_ _ | refine Chg.alloc ?_ _ | refine Chg.drew ?_ | refine Chg.setCellE ?_ ?_ _ | refine le_addk ?_ _ | refine le_ext ?_ | refine le_alloc ?_ _ | refine le_setC ?_ _ _ | refine le_drew ?_ | assumption | (refine Nat.le_of_lt ?_; omega) | omega)))⟩

theorem toAtom_any {s : ByteArray} {A : Option Addr} {c : Nat} {xs : List Int} {w : World} (hx : xs.length ≤ 1048576) (h1 : RI w A xs) :
    Calls Try.prog 49 #[.agg #[.string s, .slice A xs.length c]] w fun e w' => ∃ v F, e = .returned (.agg #[.string s, v]) ∧ (∃ y, w' = ext w y) ∧ SV 3 1 sI w' v xs F ∧ ∀ b ∈ F, w.heap.size ≤ b := by
  go_enter Try.func49, Try.ntmps49
  go_wp2_with (go_at_call 44; refine (toIntS_any hx ?_).mono ?_)
  · exact h1.toExt (by refine Chg.isExt (F := []) ?_ (refl_ext _) (by simp); repeat (with_reducible (first | exact Chg.refl _ _ | exact Nat.le_refl _ | exact Chg.ofExt (by assumption) | refine Chg.trans0 ?_ (by assumption) | refine Chg.extS ?_ _ | refine Chg.alloc ?_ _ | refine Chg.drew ?_ | refine Chg.setCellE ?_ ?_ _ | refine le_addk ?_ _ | refine le_ext ?_ | refine le_alloc ?_ _ | refine le_setC ?_ _ _ | refine le_drew ?_ | assumption | (refine Nat.le_of_lt ?_; omega) | omega)))
  · rintro e w1 ⟨v, F, rfl, ⟨y, rfl⟩, hS, hF⟩
    obtain ⟨A', cap, rfl, hcap, _⟩ := hS.form
    go_wp2
    have hF' : ∀ b ∈ F, w.heap.size + 3 ≤ b := by simpa using hF
    exact bodyPost_ret (v := .agg #[.string s, .slice A' xs.length cap]) (by simp [results, Try.results49, go_sem]) rfl ⟨_, F, rfl, (by refine Chg.isExt (F := []) ?_ (refl_ext _) (by simp); repeat (with_reducible (first | exact Chg.refl _ _ | exact Nat.le_refl _ | exact Chg.ofExt (by assumption) | refine Chg.trans0 ?_ (by assumption) | refine Chg.extS ?_ _ | refine Chg.alloc ?_ _ | refine Chg.drew ?_ | refine Chg.setCellE ?_ ?_ _ | refine le_addk ?_ _ | refine le_ext ?_ | refine le_alloc ?_ _ | refine le_setC ?_ _ _ | refine le_drew ?_ | assumption | (refine Nat.le_of_lt ?_; omega) | omega))), ((hS.setC hF' (by omega) _).setC hF' (by omega) _).setC hF' (by omega) _, fun b hb => by have := hF' b hb; omega⟩

theorem eqAtom_any {s s' : ByteArray} {A A' : Option Addr} {c c' : Nat} {xs ys : List Int} {w : World} (hx : xs.length ≤ 1000000000) (h1 : RI w A xs) (hy : ys.length ≤ 1000000000) (h2 : RI w A' ys) :
    Calls Try.prog 51 #[.agg #[.string s, .slice A xs.length c], .agg #[.string s', .slice A' ys.length c']] w fun e w' => e = .returned (.bool (decide ((s, xs) = (s', ys)))) ∧ ∃ y, w' = ext w y := by
  by_cases hs : s = s'
  · subst hs
    by_cases h : decide (xs = ys) = true
    all_goals
      go_enter Try.func51, Try.ntmps51
      go_wp2_with (go_at_call 46; refine (eqIntS_any hx (h1.toExt (by refine Chg.isExt (F := []) ?_ (refl_ext _) (by simp); repeat (with_reducible (first | exact Chg.refl _ _ | exact Nat.le_refl _ | exact Chg.ofExt (by assumption) | refine Chg.trans0 ?_ (by assumption) | refine Chg.extS ?_ _ | refine Chg.alloc ?_ _ | refine Chg.drew ?_ | refine Chg.setCellE ?_ ?_ _ | refine le_addk ?_ _ | refine le_ext ?_ | refine le_alloc ?_ _ | refine le_setC ?_ _ _ | refine le_drew ?_ | assumption | (refine Nat.le_of_lt ?_; omega) | omega)))) hy (h2.toExt (by refine Chg.isExt (F := []) ?_ (refl_ext _) (by simp); repeat (with_reducible (first | exact Chg.refl _ _ | exact Nat.le_refl _ | exact Chg.ofExt (by assumption) | refine Chg.trans0 ?_ (by assumption) | refine Chg.extS ?_ _ | refine Chg.alloc ?_ _ | refine Chg.drew ?_ | refine Chg.setCellE ?_ ?_ _ | refine le_addk ?_ _ | refine le_ext ?_ | refine le_alloc ?_ _ | refine le_setC ?_ _ _ | refine le_drew ?_ | assumption | (refine Nat.le_of_lt ?_; omega) | omega))))).mono ?_; rintro e w' ⟨rfl, y, rfl⟩)
      go_ret
      exact ⟨by simp at h; simp [h], (by refine Chg.isExt (F := []) ?_ (refl_ext _) (by simp); repeat (with_reducible (first | exact Chg.refl _ _ | exact Nat.le_refl _ | exact Chg.ofExt (by assumption) | refine Chg.trans0 ?_ (by assumption) | refine Chg.extS ?_ _ | refine Chg.alloc ?_ _ | refine Chg.drew ?_ | refine Chg.setCellE ?_ ?_ _ | refine le_addk ?_ _ | refine le_ext ?_ | refine le_alloc ?_ _ | refine le_setC ?_ _ _ | refine le_drew ?_ | assumption | (refine Nat.le_of_lt ?_; omega) | omega)))⟩
  · have hb : (s.toList == s'.toList) = false := by rw [str_beq, decide_eq_false hs]
    go_enter Try.func51, Try.ntmps51
    go_wp2_with fail
    go_ret
    exact ⟨by rw [decide_eq_false (by simp [hs])]; rfl, (by refine Chg.isExt (F := []) ?_ (refl_ext _) (by simp); repeat (with_reducible (first | exact Chg.refl _ _ | exact Nat.le_refl _ | exact Chg.ofExt (by assumption) | refine Chg.trans0 ?_ (by assumption) | refine Chg.extS ?_ _ | refine Chg.alloc ?_ _ | refine Chg.drew ?_ | refine Chg.setCellE ?_ ?_ _ | refine le_addk ?_ _ | refine le_ext ?_ | refine le_alloc ?_ _ | refine le_setC ?_ _ _ | refine le_drew ?_ | assumption | (refine Nat.le_of_lt ?_; omega) | omega)))⟩

theorem markAtom_any {s : ByteArray} {v : Value} {xs : List Int} {F : List Nat} {k0 : Int} {w : World} (hx : xs.length ≤ 1000000000) (hS : SV 3 1 sI w v xs F) (h0 : 0 ≤ k0) (hk0 : k0 ≤ 100000000000) :
    Calls Try.prog 52 #[.agg #[.string s, v], .int .i64 k0] w fun e w' => e = .returned (.int .i64 (k0 + xs.length)) ∧ SV 3 1 sI w' v (marks k0 xs.length) F ∧ Chg F w w' := by
  obtain ⟨A, cap, rfl, _, _⟩ := hS.form
  go_enter Try.func52, Try.ntmps52
  go_wp2_with (go_at_call 71; refine (markIntS_any hx (hS.allocO _) h0 hk0).mono ?_; rintro e w' ⟨rfl, hS', hC⟩)
  go_ret
  exact ⟨rfl, hS', ((Chg.refl F w).alloc _).trans hC fun x h => .inl h⟩

/-! membership -/
theorem not_mem_of {xs : List Int} {k : Nat} {n : Int} (hk : ¬ k < xs.length) (h : ∀ j (h : j < xs.length), j < k → xs[j] ≠ n) : n ∉ xs := fun hm => by
  obtain ⟨j, hj, e⟩ := List.getElem_of_mem hm
  exact h j hj (by omega) e
theorem ne_snoc {xs : List Int} {k : Nat} {n : Int} (hk : k < xs.length) (h : ∀ j (h : j < xs.length), j < k → xs[j] ≠ n) (hn : xs[k] ≠ n) : ∀ j (h : j < xs.length), j < k + 1 → xs[j] ≠ n := fun j hj hlt => by
  by_cases e : j = k
  · subst e; exact hn
  · exact h j hj (by omega)

set_option maxHeartbeats 400000 in
theorem specContains_any {s : ByteArray} {A : Option Addr} {c : Nat} {xs : List Int} {n : Int} {w : World} (hx : xs.length ≤ 1000000000) (h1 : RI w A xs) :
    Calls Try.prog 140 #[.agg #[.string s, .slice A xs.length c], .int .i64 n] w fun e w' => e = .returned (.bool (decide (n ∈ xs))) ∧ ∃ y, w' = ext w y := by
  go_enter Try.func140, Try.ntmps140
  go_wp2
  go_loop [5] (fun i => ∃ k : Nat, i = .int .i64 k ∧ k ≤ xs.length ∧ ∀ j (h : j < xs.length), j < k → xs[j] ≠ n) (fun i => xs.length - (intOf i).toNat)
  case atStart => exact ⟨0, rfl, by omega, by simp⟩
  case round =>
    obtain ⟨k, rfl, hk, hj⟩ := hrel
    have Hj := Lib.hid hj
    clear hj
    by_cases hlt : k < xs.length
    · obtain ⟨b, o, rfl, hb, hc⟩ := h1.atI hlt
      go_wp2
      · go_ret
        have e : xs[k] = n := by simpa using ‹(xs[k] == n) = true›
        exact ⟨by rw [decide_eq_true (by rw [← e]; exact List.getElem_mem hlt)]; rfl, (by refine Chg.isExt (F := []) ?_ (refl_ext _) (by simp); repeat (with_reducible (first | exact Chg.refl _ _ | exact Nat.le_refl _ | exact Chg.ofExt (by assumption) | refine Chg.trans0 ?_ (by assumption) | refine Chg.extS ?_ _ | refine Chg.alloc ?_ _ | refine Chg.drew ?_ | refine Chg.setCellE ?_ ?_ _ | refine le_addk ?_ _ | refine le_ext ?_ | refine le_alloc ?_ _ | refine le_setC ?_ _ _ | refine le_drew ?_ | assumption | (refine Nat.le_of_lt ?_; omega) | omega)))⟩
      · have e : xs[k] ≠ n := by simpa using ‹(xs[k] == n) = false›
        exact ⟨⟨k + 1, by go_num, by omega, ne_snoc hlt Hj.out e⟩, by simp [intOf]; omega⟩
    · go_wp2
      go_ret
      exact ⟨by rw [decide_eq_false (not_mem_of hlt Hj.out)]; rfl, (by refine Chg.isExt (F := []) ?_ (refl_ext _) (by simp); repeat (with_reducible (first | exact Chg.refl _ _ | exact Nat.le_refl _ | exact Chg.ofExt (by assumption) | refine Chg.trans0 ?_ (by assumption) | refine Chg.extS ?_ _ | refine Chg.alloc ?_ _ | refine Chg.drew ?_ | refine Chg.setCellE ?_ ?_ _ | refine le_addk ?_ _ | refine le_ext ?_ | refine le_alloc ?_ _ | refine le_setC ?_ _ _ | refine le_drew ?_ | assumption | (refine Nat.le_of_lt ?_; omega) | omega)))⟩

/-! the place of a number in a list, -1 where it is not there -/
def iof (k : Nat) (n : Int) : List Int → Int
  | [] => -1
  | x :: xs => if x = n then k else iof (k + 1) n xs
theorem iof_step {k j : Nat} {n : Int} {xs : List Int} (h : j < xs.length) : iof k n (xs.drop j) = if xs[j] = n then (k : Int) else iof (k + 1) n (xs.drop (j + 1)) := by
  rw [List.drop_eq_getElem_cons h]; rfl
theorem iof_nonneg {n : Int} : ∀ (k : Nat) (xs : List Int), 0 ≤ iof k n xs ↔ n ∈ xs
  | _, [] => by simp [iof]
  | k, x :: xs => by
    unfold iof
    split
    · rename_i h; subst h; simp
    · rename_i h
      rw [iof_nonneg (k + 1) xs, List.mem_cons]
      constructor
      · exact .inr
      · rintro (e | e)
        · exact absurd e.symm h
        · exact e

set_option maxHeartbeats 400000 in
theorem indexOf_any {A : Option Addr} {c : Nat} {xs : List Int} {n : Int} {w : World} (hx : xs.length ≤ 1000000000) (h1 : RI w A xs) :
    Calls Try.prog 111 #[.slice A xs.length c, .int .i64 n] w fun e w' => e = .returned (.int .i64 (iof 0 n xs)) ∧ ∃ y, w' = ext w y := by
  go_enter Try.func111, Try.ntmps111
  go_wp2
  go_loop [9] (fun i => ∃ k : Nat, i = .int .i64 k ∧ k ≤ xs.length ∧ iof k n (xs.drop k) = iof 0 n xs) (fun i => xs.length - (intOf i).toNat)
  case atStart => exact ⟨0, rfl, by omega, by simp⟩
  case round =>
    obtain ⟨k, rfl, hk, hj⟩ := hrel
    have Hj := Lib.hid hj
    clear hj
    by_cases hlt : k < xs.length
    · obtain ⟨b, o, rfl, hb, hc⟩ := h1.atI hlt
      go_wp2
      · go_ret
        have e := Hj.out
        rw [iof_step hlt, if_pos (by simpa using ‹(xs[k] == n) = true›)] at e
        exact ⟨by rw [← e]; rfl, refl_ext w⟩
      · have e := Hj.out
        rw [iof_step hlt, if_neg (by simpa using ‹(xs[k] == n) = false›)] at e
        exact ⟨⟨k + 1, by go_num, by omega, e⟩, by simp [intOf]; omega⟩
    · go_wp2
      go_ret
      have e := Hj.out
      rw [List.drop_eq_nil_of_le (by omega)] at e
      exact ⟨by rw [← e]; rfl, refl_ext w⟩

theorem hasInt_any {A : Option Addr} {c : Nat} {xs : List Int} {n : Int} {w : World} (hx : xs.length ≤ 1000000000) (h1 : RI w A xs) :
    Calls Try.prog 148 #[.slice A xs.length c, .int .i64 n] w fun e w' => e = .returned (.bool (decide (n ∈ xs))) ∧ ∃ y, w' = ext w y := by
  go_enter Try.func148, Try.ntmps148
  go_wp2_with (go_at_call 111; refine (indexOf_any hx h1).mono ?_; rintro e w' ⟨rfl, y, rfl⟩)
  go_ret
  exact ⟨by simp only [← iof_nonneg 0 xs]; rfl, y, rfl⟩

theorem Contains_any {s : ByteArray} {A : Option Addr} {c : Nat} {xs : List Int} {n : Int} {w : World} (hx : xs.length ≤ 1000000000) (h1 : RI w A xs) :
    Calls Try.prog 143 #[.agg #[.string s, .slice A xs.length c], .int .i64 n] w fun e w' => e = .returned (.bool (decide (n ∈ xs))) ∧ ∃ y, w' = ext w y := by
  go_enter Try.func143, Try.ntmps143
  go_wp2_with (go_at_call 148; refine (hasInt_any hx (h1.toExt (by refine Chg.isExt (F := []) ?_ (refl_ext _) (by simp); repeat (with_reducible (first | exact Chg.refl _ _ | exact Nat.le_refl _ | exact Chg.ofExt (by assumption) | refine Chg.trans0 ?_ (by assumption) | refine Chg.extS ?_ _ | refine Chg.alloc ?_ _ | refine Chg.drew ?_ | refine Chg.setCellE ?_ ?_ _ | refine le_addk ?_ _ | refine le_ext ?_ | refine le_alloc ?_ _ | refine le_setC ?_ _ _ | refine le_drew ?_ | assumption | (refine Nat.le_of_lt ?_; omega) | omega))))).mono ?_; rintro e w' ⟨rfl, y, rfl⟩)
  go_ret
  exact ⟨rfl, (by refine Chg.isExt (F := []) ?_ (refl_ext _) (by simp); repeat (with_reducible (first | exact Chg.refl _ _ | exact Nat.le_refl _ | exact Chg.ofExt (by assumption) | refine Chg.trans0 ?_ (by assumption) | refine Chg.extS ?_ _ | refine Chg.alloc ?_ _ | refine Chg.drew ?_ | refine Chg.setCellE ?_ ?_ _ | refine le_addk ?_ _ | refine le_ext ?_ | refine le_alloc ?_ _ | refine le_setC ?_ _ _ | refine le_drew ?_ | assumption | (refine Nat.le_of_lt ?_; omega) | omega)))⟩

/-! inclusion -/
def subB (xs ys : List Int) : Bool := xs.all fun x => decide (x ∈ ys)
theorem subB_step {xs ys : List Int} {k : Nat} (h : k < xs.length) : subB (xs.drop k) ys = (decide (xs[k] ∈ ys) && subB (xs.drop (k + 1)) ys) := by
  rw [List.drop_eq_getElem_cons h]; rfl

/-! the variables of an atom, in ascending order -/
def avars : Nat → Nat → List Int → List Int
  | 0, _, _ => []
  | f + 1, k, xs => if (k : Int) ∈ xs then (k : Int) :: avars f (k + 1) xs else avars f (k + 1) xs
theorem avars_step {k : Nat} {xs : List Int} (h : k < 5) : avars (5 - k) k xs = if (k : Int) ∈ xs then (k : Int) :: avars (5 - (k + 1)) (k + 1) xs else avars (5 - (k + 1)) (k + 1) xs := by
  rw [show 5 - k = (5 - (k + 1)) + 1 by omega, avars]
theorem avars_length : ∀ (f k : Nat) (xs : List Int), (avars f k xs).length ≤ f
  | 0, _, _ => by simp [avars]
  | f + 1, k, xs => by
    have := avars_length f (k + 1) xs
    unfold avars
    split <;> simp <;> omega

set_option maxHeartbeats 400000 in
theorem AtomVariables_any {s : ByteArray} {A : Option Addr} {c : Nat} {xs : List Int} {w : World} (hx : xs.length ≤ 1000000000) (h1 : RI w A xs) :
    Calls Try.prog 109 #[.agg #[.string s, .slice A xs.length c]] w fun e w' => ∃ v F, e = .returned v ∧ (∃ y, w' = ext w y) ∧ SV 3 1 sI w' v (avars 5 0 xs) F ∧ ∀ b ∈ F, w.heap.size ≤ b := by
  go_enter Try.func109, Try.ntmps109
  go_wp2
  refine wp_name ?_
  intro W hW
  have xW : ∃ y, W = ext w y := by rw [hW.out]; exact (by refine Chg.isExt (F := []) ?_ (refl_ext _) (by simp); repeat (with_reducible (first | exact Chg.refl _ _ | exact Nat.le_refl _ | exact Chg.ofExt (by assumption) | refine Chg.trans0 ?_ (by assumption) | refine Chg.extS ?_ _ | refine Chg.alloc ?_ _ | refine Chg.drew ?_ | refine Chg.setCellE ?_ ?_ _ | refine le_addk ?_ _ | refine le_ext ?_ | refine le_alloc ?_ _ | refine le_setC ?_ _ _ | refine le_drew ?_ | assumption | (refine Nat.le_of_lt ?_; omega) | omega)))
  have BW0 : BoxAt W (w.heap.size) #[.string s, .slice A xs.length c] := by rw [hW.out]; refine ⟨?_, fun j => ?_, fun j => ?_⟩ <;> go_simp
  obtain ⟨lW0, bW0, fW0⟩ := BW0
  clear hW
  have h1 := h1.toExt xW
  go_loopw [3, 4] (fun v i wr => ∃ (k : Nat) (ds : List Int) (F : List Nat), i = .int .i64 k ∧ k ≤ 5 ∧ SV 3 1 sI wr v ds F ∧ (∀ b ∈ F, W.heap.size ≤ b) ∧ (∃ y, wr = ext W y) ∧ ds.length ≤ k ∧ ds ++ avars (5 - k) k xs = avars 5 0 xs) (fun _ i _ => 5 - (intOf i).toNat)
  case atStart => exact ⟨0, [], [], rfl, by omega, SV.nil, by simp, refl_ext W, by simp, by simp⟩
  case round =>
    obtain ⟨k, ds, F, rfl, hk, hS, hF, ⟨y, rfl⟩, hl, hj⟩ := hrel
    have Hj := Lib.hid hj
    have HF := Lib.hid hF
    clear hj hF
    by_cases hlt : k < 5
    · go_wp2_with (first
        | (go_at_call 143; refine (Contains_any hx h1.ext).mono ?_; rintro e w' ⟨rfl, hx1⟩; obtain ⟨y', e1⟩ := trans_ext ⟨_, rfl⟩ hx1; have hS1 := hS.toExt hx1; subst e1; clear hS hx1)
        | (at_builtin; refine wpList_appI _ rfl _ _ _ rfl tI rfl rfl rfl hS1 (by omega) (by omega) ?_; intro v' w' F' hS2 hC2 hF2))
      · have e := Hj.out
        rw [avars_step hlt, if_pos ‹(k : Int) ∈ xs›] at e
        exact ⟨⟨k + 1, ds ++ [(k : Int)], F', by go_num, by omega, hS2, newer HF.out size_ext hF2, hC2.isExt ⟨_, rfl⟩ HF.out, by simp; omega, by simpa using e⟩, by simp [intOf]; omega⟩
      · have e := Hj.out
        rw [avars_step hlt, if_neg ‹¬ (k : Int) ∈ xs›] at e
        exact ⟨⟨k + 1, ds, F, by go_num, by omega, hS1, HF.out, ⟨_, rfl⟩, by omega, e⟩, by simp [intOf]; omega⟩
    · go_wp2
      go_ret
      have e := Hj.out
      rw [show 5 - k = 0 by omega, avars, List.append_nil] at e
      exact ⟨_, F, rfl, trans_ext xW ⟨_, rfl⟩, by rw [← e]; exact hS, fun b hb => Nat.le_trans (size_of_ext xW) (HF.out b hb)⟩

set_option maxHeartbeats 400000 in
theorem specAtomVariables_any {s : ByteArray} {A : Option Addr} {c : Nat} {xs : List Int} {w : World} (hx : xs.length ≤ 1000000000) (h1 : RI w A xs) :
    Calls Try.prog 108 #[.agg #[.string s, .slice A xs.length c]] w fun e w' => ∃ v F, e = .returned v ∧ (∃ y, w' = ext w y) ∧ SV 3 1 sI w' v (avars 5 0 xs) F ∧ ∀ b ∈ F, w.heap.size ≤ b := by
  go_enter Try.func108, Try.ntmps108
  go_upto_region 1 with fail
  refine wp_name ?_
  intro W hW
  have xW : ∃ y, W = ext w y := by rw [hW.out]; exact (by refine Chg.isExt (F := []) ?_ (refl_ext _) (by simp); repeat (with_reducible (first | exact Chg.refl _ _ | exact Nat.le_refl _ | exact Chg.ofExt (by assumption) | refine Chg.trans0 ?_ (by assumption) | refine Chg.extS ?_ _ | refine Chg.alloc ?_ _ | refine Chg.drew ?_ | refine Chg.setCellE ?_ ?_ _ | refine le_addk ?_ _ | refine le_ext ?_ | refine le_alloc ?_ _ | refine le_setC ?_ _ _ | refine le_drew ?_ | assumption | (refine Nat.le_of_lt ?_; omega) | omega)))
  have BW0 : BoxAt W (w.heap.size) #[.string s, .slice A xs.length c] := by rw [hW.out]; refine ⟨?_, fun j => ?_, fun j => ?_⟩ <;> go_simp
  obtain ⟨lW0, bW0, fW0⟩ := BW0
  clear hW
  go_wp2
  have h1 := h1.toExt xW
  go_loopw [3, 4] (fun v i wr => ∃ (k : Nat) (ds : List Int) (F : List Nat), i = .int .i64 k ∧ k ≤ 5 ∧ SV 3 1 sI wr v ds F ∧ (∀ b ∈ F, W.heap.size ≤ b) ∧ (∃ y, wr = ext W y) ∧ ds.length ≤ k ∧ ds ++ avars (5 - k) k xs = avars 5 0 xs) (fun _ i _ => 5 - (intOf i).toNat)
  case atStart => exact ⟨0, [], [W.heap.size], rfl, by omega, SV.empty W, by simp, alloc_ext _ _, by simp, by simp⟩
  case round =>
    obtain ⟨k, ds, F, rfl, hk, hS, hF, ⟨y, rfl⟩, hl, hj⟩ := hrel
    have Hj := Lib.hid hj
    have HF := Lib.hid hF
    clear hj hF
    by_cases hlt : k < 5
    · go_wp2_with (first
        | (go_at_call 140; refine (specContains_any hx h1.ext).mono ?_; rintro e w' ⟨rfl, hx1⟩; obtain ⟨y', e1⟩ := trans_ext ⟨_, rfl⟩ hx1; have hS1 := hS.toExt hx1; subst e1; clear hS hx1)
        | (at_builtin; refine wpList_appI _ rfl _ _ _ rfl tI rfl rfl rfl hS1 (by omega) (by omega) ?_; intro v' w' F' hS2 hC2 hF2))
      · have e := Hj.out
        rw [avars_step hlt, if_pos ‹(k : Int) ∈ xs›] at e
        exact ⟨⟨k + 1, ds ++ [(k : Int)], F', by go_num, by omega, hS2, newer HF.out size_ext hF2, hC2.isExt ⟨_, rfl⟩ HF.out, by simp; omega, by simpa using e⟩, by simp [intOf]; omega⟩
      · have e := Hj.out
        rw [avars_step hlt, if_neg ‹¬ (k : Int) ∈ xs›] at e
        exact ⟨⟨k + 1, ds, F, by go_num, by omega, hS1, HF.out, ⟨_, rfl⟩, by omega, e⟩, by simp [intOf]; omega⟩
    · go_wp2
      go_ret
      have e := Hj.out
      rw [show 5 - k = 0 by omega, avars, List.append_nil] at e
      exact ⟨_, F, rfl, trans_ext xW ⟨_, rfl⟩, by rw [← e]; exact hS, fun b hb => Nat.le_trans (size_of_ext xW) (HF.out b hb)⟩
end Go.Proofs.Ytgoleefkbjjidaa

/- The variables of two atoms; the program's way and the reference's. -/
namespace Go.Proofs.Ytgoleefkbjjidaa
open Go.RowKit

def comL (xs ys : List Int) : List Int := xs.filter fun x => decide (x ∈ ys)
theorem comL_take {xs ys : List Int} {k : Nat} (h : k < xs.length) : comL (xs.take (k + 1)) ys = comL (xs.take k) ys ++ (if decide (xs[k] ∈ ys) = true then [xs[k]] else []) := by
  unfold comL
  rw [List.take_succ_eq_append_getElem h, List.filter_append, List.filter_cons, List.filter_nil]
def cvars : Nat → Nat → List Int → List Int → List Int
  | 0, _, _, _ => []
  | f + 1, k, xs, ys => if decide ((k : Int) ∈ xs) = true ∧ decide ((k : Int) ∈ ys) = true then (k : Int) :: cvars f (k + 1) xs ys else cvars f (k + 1) xs ys
theorem mem_avars : ∀ (f k : Nat) (xs : List Int) (n : Int), n ∈ avars f k xs ↔ (k : Int) ≤ n ∧ n < k + f ∧ n ∈ xs
  | 0, k, xs, n => by simp [avars]; omega
  | f + 1, k, xs, n => by
    have ih := mem_avars f (k + 1) xs n
    unfold avars
    split
    · rename_i h
      rw [List.mem_cons, ih]
      constructor
      · rintro (rfl | ⟨h1, h2, h3⟩)
        · exact ⟨by omega, by omega, h⟩
        · exact ⟨by omega, by omega, h3⟩
      · rintro ⟨h1, h2, h3⟩
        by_cases e : n = k
        · exact .inl e
        · exact .inr ⟨by omega, by omega, h3⟩
    · rename_i h
      rw [ih]
      constructor
      · rintro ⟨h1, h2, h3⟩
        exact ⟨by omega, by omega, h3⟩
      · rintro ⟨h1, h2, h3⟩
        refine ⟨?_, by omega, h3⟩
        have : n ≠ k := by rintro rfl; exact h h3
        omega
theorem com_avars : ∀ (f k : Nat) (xs ys zs : List Int), (∀ n : Int, (k : Int) ≤ n → n < k + f → (n ∈ zs ↔ n ∈ ys)) → comL (avars f k xs) zs = cvars f k xs ys
  | 0, _, _, _, _, _ => rfl
  | f + 1, k, xs, ys, zs, h => by
    have ih := com_avars f (k + 1) xs ys zs fun n h1 h2 => h n (by omega) (by omega)
    have hk := h k (by omega) (by omega)
    unfold avars cvars
    by_cases h1 : (k : Int) ∈ xs
    · rw [if_pos h1]
      by_cases h2 : (k : Int) ∈ ys
      · rw [if_pos ⟨by simpa using h1, by simpa using h2⟩, ← ih]
        unfold comL
        rw [List.filter_cons, if_pos (by simpa using hk.2 h2)]
      · rw [if_neg (by simp [h2]), ← ih]
        unfold comL
        rw [List.filter_cons, if_neg (by simpa using fun h => h2 (hk.1 h))]
    · rw [if_neg h1, if_neg (by simp [h1]), ih]
theorem comV_eq (xs ys : List Int) : comL (avars 5 0 xs) (avars 5 0 ys) = cvars 5 0 xs ys := com_avars 5 0 xs ys _ fun n h1 h2 => by
  rw [mem_avars]
  constructor
  · exact fun h => h.2.2
  · exact fun h => ⟨h1, h2, h⟩
theorem cvars_length (xs ys : List Int) : (cvars 5 0 xs ys).length ≤ 5 := by
  rw [← comV_eq]
  exact Nat.le_trans (List.length_filter_le _ _) (avars_length 5 0 xs)
theorem cvars_step {k : Nat} {xs ys : List Int} (h : k < 5) : cvars (5 - k) k xs ys = if decide ((k : Int) ∈ xs) = true ∧ decide ((k : Int) ∈ ys) = true then (k : Int) :: cvars (5 - (k + 1)) (k + 1) xs ys else cvars (5 - (k + 1)) (k + 1) xs ys := by
  rw [show 5 - k = (5 - (k + 1)) + 1 by omega, cvars]
end Go.Proofs.Ytgoleefkbjjidaa

/- Ascending lists: one number put in, two united, numbers struck; the lists are told by their members. No program in it. -/
namespace Go.Proofs.Ytgoleefkbjjidaa
open Go.RowKit

/-- the place of n in an ascending list: the first that is not less -/
def insK (n : Int) : List Int → Nat
  | [] => 0
  | x :: xs => if x < n then insK n xs + 1 else 0
def insS (n : Int) (l : List Int) : List Int := if (l.drop (insK n l)).head? = some n then l else l.take (insK n l) ++ [n] ++ l.drop (insK n l)
def uniL (a b : List Int) : List Int := b.foldl (fun acc n => insS n acc) a
def strike (n : Int) (l : List Int) : List Int := l.filter fun x => decide (x ≠ n)
theorem insK_step {n : Int} {l : List Int} {k : Nat} (h : k < l.length) (hx : l[k] < n) : k + insK n (l.drop k) = k + 1 + insK n (l.drop (k + 1)) := by
  rw [List.drop_eq_getElem_cons h, insK, if_pos hx]
  omega
theorem insK_hit {n : Int} {l : List Int} {k : Nat} (h : k < l.length) (hx : ¬ l[k] < n) : k + insK n (l.drop k) = k := by
  rw [List.drop_eq_getElem_cons h, insK, if_neg hx]
  omega
theorem insK_end {n : Int} {l : List Int} {k : Nat} (h : ¬ k < l.length) : k + insK n (l.drop k) = k := by
  rw [List.drop_eq_nil_of_le (by omega), insK]
  omega
theorem uniL_step {a b : List Int} {k : Nat} (h : k < b.length) : uniL a (b.take (k + 1)) = insS b[k] (uniL a (b.take k)) := by
  unfold uniL
  rw [List.take_succ_eq_append_getElem h, List.foldl_append]
  rfl
def insR (n : Int) : List Int → List Int
  | [] => [n]
  | x :: xs => if x < n then x :: insR n xs else if x = n then x :: xs else n :: x :: xs
theorem insS_eq (n : Int) : ∀ l, insS n l = insR n l
  | [] => rfl
  | x :: xs => by
    have ih := insS_eq n xs
    unfold insS at ih
    unfold insS insK insR
    by_cases h : x < n
    · rw [if_pos h, if_pos h, List.drop_succ_cons, List.take_succ_cons, ← ih]
      split <;> simp
    · rw [if_neg h, if_neg h]
      by_cases h2 : x = n
      · simp [h2]
      · simp [h2]
theorem insS_length (n : Int) (l : List Int) : (insS n l).length ≤ l.length + 1 := by
  unfold insS
  split
  · omega
  · simp only [List.length_append, List.length_take, List.length_drop, List.length_cons, List.length_nil]; omega
theorem uniL_length : ∀ (b a : List Int), (uniL a b).length ≤ a.length + b.length
  | [], a => by simp [uniL]
  | x :: b, a => by
    have h1 := uniL_length b (insS x a)
    have h2 := insS_length x a
    have e : uniL a (x :: b) = uniL (insS x a) b := rfl
    rw [e, List.length_cons]
    omega
def Asc (l : List Int) : Prop := l.Pairwise (· < ·)
theorem mem_insR {n x : Int} : ∀ {l : List Int}, x ∈ insR n l ↔ x = n ∨ x ∈ l
  | [] => by simp [insR]
  | y :: ys => by
    unfold insR
    split
    · rw [List.mem_cons, mem_insR (l := ys), List.mem_cons]
      constructor
      · rintro (h | h | h)
        · exact .inr (.inl h)
        · exact .inl h
        · exact .inr (.inr h)
      · rintro (h | h | h)
        · exact .inr (.inl h)
        · exact .inl h
        · exact .inr (.inr h)
    · split
      · rename_i h; subst h
        simp
      · simp
theorem asc_insR {n : Int} : ∀ {l : List Int}, Asc l → Asc (insR n l)
  | [], _ => by simp [insR, Asc]
  | y :: ys, h => by
    have h' := List.pairwise_cons.1 h
    unfold insR
    split
    · rename_i hy
      refine List.pairwise_cons.2 ⟨fun z hz => ?_, asc_insR h'.2⟩
      rcases mem_insR.1 hz with e | e
      · omega
      · exact h'.1 z e
    · split
      · exact h
      · refine List.pairwise_cons.2 ⟨fun z hz => ?_, h⟩
        rcases List.mem_cons.1 hz with e | e
        · omega
        · have := h'.1 z e
          omega
theorem mem_insS {n x : Int} {l : List Int} : x ∈ insS n l ↔ x = n ∨ x ∈ l := by rw [insS_eq]; exact mem_insR
theorem asc_insS {n : Int} {l : List Int} (h : Asc l) : Asc (insS n l) := by rw [insS_eq]; exact asc_insR h
theorem mem_uniL {x : Int} : ∀ {b a : List Int}, x ∈ uniL a b ↔ x ∈ a ∨ x ∈ b
  | [], a => by simp [uniL]
  | y :: b, a => by
    have e : uniL a (y :: b) = uniL (insS y a) b := rfl
    rw [e, mem_uniL, mem_insS, List.mem_cons]
    constructor
    · rintro ((h | h) | h)
      · exact .inr (.inl h)
      · exact .inl h
      · exact .inr (.inr h)
    · rintro (h | h | h)
      · exact .inl (.inr h)
      · exact .inl (.inl h)
      · exact .inr h
theorem asc_uniL : ∀ {b a : List Int}, Asc a → Asc (uniL a b)
  | [], _, h => h
  | y :: b, a, h => by
    have e : uniL a (y :: b) = uniL (insS y a) b := rfl
    rw [e]
    exact asc_uniL (asc_insS h)
theorem asc_nil : Asc [] := List.Pairwise.nil
theorem asc_filter {l : List Int} (p : Int → Bool) (h : Asc l) : Asc (l.filter p) := List.Pairwise.filter p h
theorem asc_strike {n : Int} {l : List Int} (h : Asc l) : Asc (strike n l) := asc_filter _ h
theorem mem_strike {n x : Int} {l : List Int} : x ∈ strike n l ↔ x ∈ l ∧ x ≠ n := by unfold strike; simp
/-- two ascending lists with the same members are the same -/
theorem asc_ext : ∀ {a b : List Int}, Asc a → Asc b → (∀ x, x ∈ a ↔ x ∈ b) → a = b
  | [], [], _, _, _ => rfl
  | [], y :: b, _, _, h => by have := (h y).2 (by simp); simp at this
  | x :: a, [], _, _, h => by have := (h x).1 (by simp); simp at this
  | x :: a, y :: b, ha, hb, h => by
    have ha' := List.pairwise_cons.1 ha
    have hb' := List.pairwise_cons.1 hb
    have hxy : x = y := by
      have h1 := (h x).1 (by simp)
      have h2 := (h y).2 (by simp)
      rcases List.mem_cons.1 h1 with e | e
      · exact e
      · rcases List.mem_cons.1 h2 with e2 | e2
        · exact e2.symm
        · have := hb'.1 x e
          have := ha'.1 y e2
          omega
    subst hxy
    congr 1
    refine asc_ext ha'.2 hb'.2 fun z => ?_
    have hz := h z
    rw [List.mem_cons, List.mem_cons] at hz
    constructor
    · intro hm
      rcases hz.1 (.inr hm) with e | e
      · have := ha'.1 z hm; omega
      · exact e
    · intro hm
      rcases hz.2 (.inr hm) with e | e
      · have := hb'.1 z hm; omega
      · exact e
theorem asc_avars : ∀ (f k : Nat) (xs : List Int), Asc (avars f k xs)
  | 0, _, _ => asc_nil
  | f + 1, k, xs => by
    have ih := asc_avars f (k + 1) xs
    unfold avars
    split
    · refine List.pairwise_cons.2 ⟨fun z hz => ?_, ih⟩
      have := (mem_avars f (k + 1) xs z).1 hz
      omega
    · exact ih
/-- the numbers from k on, f of them, of which p holds -/
def selF (p : Int → Bool) : Nat → Nat → List Int
  | 0, _ => []
  | f + 1, k => if p k = true then (k : Int) :: selF p f (k + 1) else selF p f (k + 1)
theorem selF_step {p : Int → Bool} {n k : Nat} (h : k < n) : selF p (n - k) k = if p k = true then (k : Int) :: selF p (n - (k + 1)) (k + 1) else selF p (n - (k + 1)) (k + 1) := by
  rw [show n - k = (n - (k + 1)) + 1 by omega, selF]
theorem mem_selF {p : Int → Bool} {x : Int} : ∀ (f k : Nat), x ∈ selF p f k ↔ (k : Int) ≤ x ∧ x < k + f ∧ p x = true
  | 0, k => by simp [selF]; omega
  | f + 1, k => by
    have ih := mem_selF (p := p) (x := x) f (k + 1)
    unfold selF
    split
    · rename_i h
      rw [List.mem_cons, ih]
      constructor
      · rintro (rfl | ⟨h1, h2, h3⟩)
        · exact ⟨by omega, by omega, h⟩
        · exact ⟨by omega, by omega, h3⟩
      · rintro ⟨h1, h2, h3⟩
        by_cases e : x = k
        · exact .inl e
        · exact .inr ⟨by omega, by omega, h3⟩
    · rename_i h
      rw [ih]
      constructor
      · rintro ⟨h1, h2, h3⟩
        exact ⟨by omega, by omega, h3⟩
      · rintro ⟨h1, h2, h3⟩
        refine ⟨?_, by omega, h3⟩
        have : x ≠ k := by rintro rfl; exact h h3
        omega
theorem asc_selF {p : Int → Bool} : ∀ (f k : Nat), Asc (selF p f k)
  | 0, _ => asc_nil
  | f + 1, k => by
    have ih := asc_selF (p := p) f (k + 1)
    unfold selF
    split
    · refine List.pairwise_cons.2 ⟨fun z hz => ?_, ih⟩
      have := (mem_selF f (k + 1)).1 hz
      omega
    · exact ih
theorem selF_length {p : Int → Bool} : ∀ (f k : Nat), (selF p f k).length ≤ f
  | 0, _ => by simp [selF]
  | f + 1, k => by
    have := selF_length (p := p) f (k + 1)
    unfold selF
    split <;> simp <;> omega
end Go.Proofs.Ytgoleefkbjjidaa

/- Rows as assignments to variables: what a semijoin and a natural join of rows come to. No program in it. -/
namespace Go.Proofs.Ytgoleefkbjjidaa
open Go.RowKit

theorem iof_get {v : Int} : ∀ {k : Nat} {va : List Int}, v ∈ va → ∃ i : Nat, iof k v va = ((k + i : Nat) : Int) ∧ va[i]? = some v
  | _, [], h => by simp at h
  | k, x :: va, h => by
    rw [iof]
    split
    · rename_i e
      subst e
      exact ⟨0, by simp, by simp⟩
    · rename_i e
      rcases List.mem_cons.1 h with h | h
      · exact absurd h.symm e
      · obtain ⟨i, h1, h2⟩ := iof_get (k := k + 1) h
        exact ⟨i + 1, by rw [h1]; congr 1; omega, by simpa using h2⟩
theorem iof_nodup : ∀ {k : Nat} {va : List Int} {i : Nat} (_ : va.Nodup) (h : i < va.length), iof k va[i] va = ((k + i : Nat) : Int)
  | k, x :: va, 0, _, _ => by rw [iof]; simp
  | k, x :: va, i + 1, hn, h => by
    rw [List.nodup_cons] at hn
    rw [iof, if_neg, List.getElem_cons_succ, iof_nodup hn.2]
    · congr 1; omega
    · rintro e
      rw [List.getElem_cons_succ] at e
      exact hn.1 (e ▸ List.getElem_mem _)
theorem iof_neg {k : Nat} {v : Int} {va : List Int} : iof k v va < 0 ↔ v ∉ va := by
  have := iof_nonneg (n := v) k va
  constructor
  · intro h hm; have := this.2 hm; omega
  · intro h; by_cases h2 : 0 ≤ iof k v va
    · exact absurd (this.1 h2) h
    · omega

/-- a row's value at a variable -/
def valAt (va r : List Int) (v : Int) : Int := r.getD (iof 0 v va).toNat 0
theorem valAt_map {va : List Int} {g : Int → Int} {v : Int} (h : v ∈ va) : valAt va (va.map g) v = g v := by
  obtain ⟨i, h1, h2⟩ := iof_get (k := 0) h
  unfold valAt
  rw [h1, Int.toNat_natCast, Nat.zero_add, List.getD_eq_getElem?_getD, List.getElem?_map, h2]
  rfl
theorem map_valAt {va r : List Int} (hn : va.Nodup) (hl : r.length = va.length) : va.map (valAt va r) = r := by
  apply List.ext_getElem
  · simp [hl]
  · intro i h1 h2
    rw [List.getElem_map]
    unfold valAt
    rw [iof_nodup hn (by simpa using h1), Int.toNat_natCast, Nat.zero_add, getDl _ _ h2]
def agreeB (va r vb s : List Int) : Bool := va.all fun v => !decide (v ∈ vb) || decide (valAt va r v = valAt vb s v)
theorem agreeB_iff {va r vb s : List Int} : agreeB va r vb s = true ↔ ∀ v ∈ va, v ∈ vb → valAt va r v = valAt vb s v := by
  unfold agreeB
  simp only [List.all_eq_true, Bool.or_eq_true, Bool.not_eq_true', decide_eq_false_iff_not, decide_eq_true_eq]
  constructor
  · intro h v h1 h2
    rcases h v h1 with h | h
    · exact absurd h2 h
    · exact h
  · intro h v h1
    by_cases h2 : v ∈ vb
    · exact .inr (h v h1 h2)
    · exact .inl h2
def glueR (un va r vb s : List Int) : List Int := un.map fun v => if v ∈ va then valAt va r v else valAt vb s v
def joinL (un va : List Int) (ra : List (List Int)) (vb : List Int) (rb : List (List Int)) : List (List Int) :=
  ra.flatMap fun r => (rb.filter fun s => agreeB va r vb s).map fun s => glueR un va r vb s
def semiL (va : List Int) (ra : List (List Int)) (vb : List Int) (rb : List (List Int)) : List (List Int) := ra.filter fun r => rb.any fun s => agreeB va r vb s

theorem mem_semiL {va vb r : List Int} {ra rb : List (List Int)} (ha : va.Nodup) (hb : vb.Nodup) (hra : ∀ r ∈ ra, r.length = va.length) (hrb : ∀ s ∈ rb, s.length = vb.length) :
    r ∈ semiL va ra vb rb ↔ r ∈ ra ∧ ∃ g : Int → Int, va.map g = r ∧ vb.map g ∈ rb := by
  unfold semiL
  rw [List.mem_filter, List.any_eq_true]
  refine and_congr_right fun hr => ?_
  constructor
  · rintro ⟨s, hs, hag⟩
    rw [agreeB_iff] at hag
    refine ⟨fun v => if v ∈ va then valAt va r v else valAt vb s v, ?_, ?_⟩
    · rw [List.map_congr_left (g := valAt va r) (fun v hv => by rw [if_pos hv]), map_valAt ha (hra r hr)]
    · rw [List.map_congr_left (g := valAt vb s) (fun v hv => ?_), map_valAt hb (hrb s hs)]
      · exact hs
      · split
        · rename_i h; exact hag v h hv
        · rfl
  · rintro ⟨g, rfl, h2⟩
    refine ⟨_, h2, agreeB_iff.2 fun v h3 h4 => ?_⟩
    rw [valAt_map h3, valAt_map h4]
theorem mem_joinL {un va vb t : List Int} {ra rb : List (List Int)} (ha : va.Nodup) (hb : vb.Nodup) (hra : ∀ r ∈ ra, r.length = va.length) (hrb : ∀ s ∈ rb, s.length = vb.length) (hu : ∀ v ∈ un, v ∈ va ∨ v ∈ vb) :
    t ∈ joinL un va ra vb rb ↔ ∃ g : Int → Int, un.map g = t ∧ va.map g ∈ ra ∧ vb.map g ∈ rb := by
  unfold joinL
  simp only [List.mem_flatMap, List.mem_map, List.mem_filter]
  constructor
  · rintro ⟨r, hr, s, ⟨hs, hag⟩, rfl⟩
    rw [agreeB_iff] at hag
    refine ⟨fun v => if v ∈ va then valAt va r v else valAt vb s v, rfl, ?_, ?_⟩
    · rw [List.map_congr_left (g := valAt va r) (fun v hv => by rw [if_pos hv]), map_valAt ha (hra r hr)]
      exact hr
    · rw [List.map_congr_left (g := valAt vb s) (fun v hv => ?_), map_valAt hb (hrb s hs)]
      · exact hs
      · split
        · rename_i h; exact hag v h hv
        · rfl
  · rintro ⟨g, rfl, h1, h2⟩
    refine ⟨_, h1, _, ⟨h2, agreeB_iff.2 fun v h3 h4 => by rw [valAt_map h3, valAt_map h4]⟩, ?_⟩
    unfold glueR
    refine List.map_congr_left fun v hv => ?_
    split
    · rename_i h; exact valAt_map h
    · rename_i h
      rcases hu v hv with k | k
      · exact absurd k h
      · exact valAt_map k
theorem glue_left {un va r vb s : List Int} (ha : va.Nodup) (hr : r.length = va.length) (hu : ∀ v ∈ va, v ∈ un) : va.map (valAt un (glueR un va r vb s)) = r := by
  unfold glueR
  rw [List.map_congr_left (g := valAt va r) (fun v hv => by rw [valAt_map (hu v hv), if_pos hv]), map_valAt ha hr]
theorem glue_right {un va r vb s : List Int} (hb : vb.Nodup) (hs : s.length = vb.length) (hu : ∀ v ∈ vb, v ∈ un) (hag : agreeB va r vb s = true) : vb.map (valAt un (glueR un va r vb s)) = s := by
  unfold glueR
  rw [List.map_congr_left (g := valAt vb s) (fun v hv => ?_), map_valAt hb hs]
  rw [valAt_map (hu v hv)]
  split
  · rename_i h; exact agreeB_iff.1 hag v h hv
  · rfl
theorem joinL_nodup {un va vb : List Int} {ra rb : List (List Int)} (ha : va.Nodup) (hb : vb.Nodup) (hra : ∀ r ∈ ra, r.length = va.length) (hrb : ∀ s ∈ rb, s.length = vb.length) (hua : ∀ v ∈ va, v ∈ un) (hub : ∀ v ∈ vb, v ∈ un)
    (na : ra.Nodup) (nb : rb.Nodup) : (joinL un va ra vb rb).Nodup := by
  unfold joinL
  refine List.pairwise_flatMap.2 ⟨fun r hr => ?_, ?_⟩
  · refine List.pairwise_map.2 ?_
    refine List.Pairwise.imp_of_mem (R := (· ≠ ·)) (fun {s s'} hs hs' hne e => ?_) (List.Pairwise.filter _ nb)
    rw [List.mem_filter] at hs hs'
    apply hne
    rw [← glue_right (un := un) (va := va) (r := r) hb (hrb s hs.1) hub hs.2, e, glue_right hb (hrb s' hs'.1) hub hs'.2]
  · refine List.Pairwise.imp_of_mem (R := (· ≠ ·)) (fun {r r'} hr hr' hne _ hx y hy e => ?_) na
    rw [List.mem_map] at hx hy
    obtain ⟨s, _, rfl⟩ := hx
    obtain ⟨s', _, rfl⟩ := hy
    apply hne
    rw [← glue_left (un := un) (vb := vb) (s := s) ha (hra r hr) hua, e, glue_left ha (hra r' hr') hua]
theorem nodup_sortR {l : List (List Int)} (h : l.Nodup) : (sortR l).length = l.length :=
  List.Perm.length_eq ((List.perm_ext_iff_of_nodup (ascR_nodup (asc_sortR l)) h).2 fun x => mem_sortR)
theorem asc_nodup {l : List Int} (h : Asc l) : l.Nodup := List.Pairwise.imp (fun {_ _} h => by omega) h

/-! ### a labeled relation that is valid -/
structure VrOk (d : VRd) : Prop where
  asc : Asc d.1
  lo : ∀ v ∈ d.1, 0 ≤ v ∧ v ≤ 4
  len : d.1.length ≤ 5
  ar : d.2.1 = (d.1.length : Int)
  cnt : d.2.2.length ≤ 4000
  rl : ∀ r ∈ d.2.2, r.length = d.1.length
  rv : ∀ r ∈ d.2.2, rowV r = true
  ra : AscR d.2.2
theorem vars1_iff {xs : List Int} : varsB xs = true ↔ Asc xs ∧ ∀ v ∈ xs, 0 ≤ v ∧ v ≤ 4 := by
  unfold varsB
  rw [allN_true]
  constructor
  · intro h
    have hv : ∀ i (hi : i < xs.length), 0 ≤ xs[i] ∧ xs[i] ≤ 4 := fun i hi => by
      have := h i (by omega) (by omega)
      unfold vars1 at this
      rw [getDl _ _ hi, Bool.and_eq_true] at this
      exact inB_t this.1
    refine ⟨?_, fun v hv2 => by obtain ⟨i, hi, rfl⟩ := List.getElem_of_mem hv2; exact hv i hi⟩
    have hn : ∀ i (hi : i + 1 < xs.length), xs[i] < xs[i + 1] := fun i hi => by
      have := h (i + 1) (by omega) (by omega)
      unfold vars1 at this
      rw [getDl _ _ hi, show i + 1 - 1 = i by omega, getDl _ _ (show i < xs.length by omega), Bool.and_eq_true] at this
      simpa using this.2
    unfold Asc
    rw [List.pairwise_iff_getElem]
    intro i j hi hj hij
    obtain ⟨d, rfl⟩ : ∃ d, j = i + 1 + d := ⟨j - i - 1, by omega⟩
    induction d with
    | zero => exact hn i hj
    | succ d ih =>
      have h1 := ih (by omega) (by omega)
      have h2 := hn (i + 1 + d) hj
      exact Int.lt_trans h1 h2
  · rintro ⟨h1, h2⟩ i _ hi
    rw [Nat.zero_add] at hi
    unfold vars1
    have h3 := h2 _ (List.getElem_mem hi)
    rw [getDl _ _ hi, Bool.and_eq_true]
    refine ⟨by simp [inB, h3], ?_⟩
    rcases Nat.eq_zero_or_pos i with h4 | h4
    · simp [h4]
    · rw [getDl _ _ (show i - 1 < xs.length by omega)]
      have := List.pairwise_iff_getElem.1 h1 (i - 1) i (by omega) hi (by omega)
      simp [this]
theorem asc_bd : ∀ {xs : List Int} {lo hi : Int}, Asc xs → (∀ v ∈ xs, lo ≤ v ∧ v ≤ hi) → lo ≤ hi + 1 → (xs.length : Int) ≤ hi + 1 - lo
  | [], lo, hi, _, _, h => by simp; omega
  | x :: xs, lo, hi, h, hb, _ => by
    unfold Asc at h
    rw [List.pairwise_cons] at h
    have hx := hb x (by simp)
    have := asc_bd (xs := xs) (lo := x + 1) (hi := hi) h.2 (fun v hv => ⟨by have := h.1 v hv; omega, (hb v (by simp [hv])).2⟩) (by omega)
    simp only [List.length_cons]
    omega
theorem asc_len5 {xs : List Int} (h : Asc xs) (hb : ∀ v ∈ xs, 0 ≤ v ∧ v ≤ 4) : xs.length ≤ 5 := by
  have := asc_bd h hb (by omega)
  omega
theorem vrB_iff {d : VRd} : vrB d = true ↔ VrOk d := by
  unfold vrB
  rw [Bool.and_eq_true, Bool.and_eq_true, vars1_iff, rowsB_iff, decide_eq_true_eq]
  constructor
  · rintro ⟨⟨⟨h1, h2⟩, h3, h4, h5, h6, h7⟩, h8⟩
    exact ⟨h1, h2, by omega, h8, h5, fun r hr => by have := (h6 r hr).1; omega, fun r hr => (h6 r hr).2, h7⟩
  · intro h
    have := h.len
    exact ⟨⟨⟨h.asc, h.lo⟩, by rw [h.ar]; omega, by rw [h.ar]; omega, h.cnt, fun r hr => ⟨by rw [h.ar, h.rl r hr], h.rv r hr⟩, h.ra⟩, h.ar⟩

/-! ### the semijoin and the natural join of valid ones -/
def semiR (a b : VRd) : Option VRd := if vrB a = true ∧ vrB b = true then some (a.1, a.2.1, semiL a.1 a.2.2 b.1 b.2.2) else none
def joinVR (a b : VRd) : VRd := (uniL a.1 b.1, ((uniL a.1 b.1).length : Int), sortR (joinL (uniL a.1 b.1) a.1 a.2.2 b.1 b.2.2))
def joinR (a b : VRd) : Option VRd := if (vrB a = true ∧ vrB b = true) ∧ (joinL (uniL a.1 b.1) a.1 a.2.2 b.1 b.2.2).length ≤ 4000 then some (joinVR a b) else none
theorem semi_ok {a b d : VRd} (h : semiR a b = some d) : VrOk d := by
  unfold semiR at h
  split at h
  · rename_i hh
    injection h with h
    subst h
    have ha := vrB_iff.1 hh.1
    have hs : ∀ r ∈ semiL a.1 a.2.2 b.1 b.2.2, r ∈ a.2.2 := fun r hr => (List.mem_filter.1 hr).1
    exact ⟨ha.asc, ha.lo, ha.len, ha.ar, Nat.le_trans (List.length_filter_le _ _) ha.cnt, fun r hr => ha.rl r (hs r hr), fun r hr => ha.rv r (hs r hr), ascR_filter _ ha.ra⟩
  · cases h
theorem rowV_iff {r : List Int} : rowV r = true ↔ ∀ x ∈ r, 0 ≤ x ∧ x ≤ 99 := by
  unfold rowV
  rw [List.all_eq_true]
  constructor
  · exact fun h x hx => inB_t (h x hx)
  · exact fun h x hx => by simp [inB, h x hx]
theorem valAt_mem {va r : List Int} {v : Int} (h : v ∈ va) (hl : r.length = va.length) : valAt va r v ∈ r := by
  obtain ⟨i, h1, h2⟩ := iof_get (k := 0) h
  unfold valAt
  have hi : i < va.length := (List.getElem?_eq_some_iff.1 h2).1
  rw [h1, Int.toNat_natCast, Nat.zero_add, getDl _ _ (by omega)]
  exact List.getElem_mem _
theorem glue_valid {un va r vb s : List Int} (hu : ∀ v ∈ un, v ∈ va ∨ v ∈ vb) (hr : r.length = va.length) (hs : s.length = vb.length) (vr : rowV r = true) (vs : rowV s = true) : rowV (glueR un va r vb s) = true := by
  rw [rowV_iff] at vr vs ⊢
  intro x hx
  unfold glueR at hx
  obtain ⟨v, hv, rfl⟩ := List.mem_map.1 hx
  split
  · rename_i h; exact vr _ (valAt_mem h hr)
  · rename_i h
    rcases hu v hv with k | k
    · exact absurd k h
    · exact vs _ (valAt_mem k hs)
theorem join_mem {a b : VRd} (ha : VrOk a) (hb : VrOk b) {t : List Int} : t ∈ joinL (uniL a.1 b.1) a.1 a.2.2 b.1 b.2.2 ↔ ∃ g : Int → Int, (uniL a.1 b.1).map g = t ∧ a.1.map g ∈ a.2.2 ∧ b.1.map g ∈ b.2.2 :=
  mem_joinL (asc_nodup ha.asc) (asc_nodup hb.asc) ha.rl hb.rl fun _ h => mem_uniL.1 h
theorem join_rows {a b : VRd} (ha : VrOk a) (hb : VrOk b) : ∀ t ∈ joinL (uniL a.1 b.1) a.1 a.2.2 b.1 b.2.2, t.length = (uniL a.1 b.1).length ∧ rowV t = true := fun t ht => by
  unfold joinL at ht
  simp only [List.mem_flatMap, List.mem_map, List.mem_filter] at ht
  obtain ⟨r, hr, s, ⟨hs, _⟩, rfl⟩ := ht
  exact ⟨by simp [glueR], glue_valid (fun _ h => mem_uniL.1 h) (ha.rl r hr) (hb.rl s hs) (ha.rv r hr) (hb.rv s hs)⟩
theorem uni_bd {a b : VRd} (ha : VrOk a) (hb : VrOk b) : ∀ v ∈ uniL a.1 b.1, 0 ≤ v ∧ v ≤ 4 := fun v hv => by
  rcases mem_uniL.1 hv with h | h
  · exact ha.lo v h
  · exact hb.lo v h
theorem join_nodup {a b : VRd} (ha : VrOk a) (hb : VrOk b) : (joinL (uniL a.1 b.1) a.1 a.2.2 b.1 b.2.2).Nodup :=
  joinL_nodup (asc_nodup ha.asc) (asc_nodup hb.asc) ha.rl hb.rl (fun _ h => mem_uniL.2 (.inl h)) (fun _ h => mem_uniL.2 (.inr h)) (ascR_nodup ha.ra) (ascR_nodup hb.ra)
theorem join_ok {a b d : VRd} (h : joinR a b = some d) : VrOk d := by
  unfold joinR at h
  split at h
  · rename_i hh
    obtain ⟨⟨h1, h2⟩, h3⟩ := hh
    injection h with h
    subst h
    have ha := vrB_iff.1 h1
    have hb := vrB_iff.1 h2
    have hA := asc_uniL (b := b.1) ha.asc
    exact ⟨hA, uni_bd ha hb, asc_len5 hA (uni_bd ha hb), rfl, Nat.le_trans (sortR_length _) h3, fun r hr => (join_rows ha hb r (mem_sortR.1 hr)).1, fun r hr => (join_rows ha hb r (mem_sortR.1 hr)).2, asc_sortR _⟩
  · cases h
/-- the reference's way: rows in any order, made a relation -/
theorem join_new {a b : VRd} (h : vrB a = true ∧ vrB b = true) : newR ((uniL a.1 b.1).length : Int) (joinL (uniL a.1 b.1) a.1 a.2.2 b.1 b.2.2) = (joinR a b).map (·.2) := by
  have ha := vrB_iff.1 h.1
  have hb := vrB_iff.1 h.2
  have hl := nodup_sortR (join_nodup ha hb)
  have h5 := asc_len5 (asc_uniL (b := b.1) ha.asc) (uni_bd ha hb)
  by_cases hc : (joinL (uniL a.1 b.1) a.1 a.2.2 b.1 b.2.2).length ≤ 4000
  · unfold joinR
    rw [if_pos ⟨h, hc⟩, newR_some (rowsIn_iff.2 fun r hr => by have := join_rows ha hb r hr; exact ⟨by rw [this.1], this.2⟩) (by omega) (by omega) (by omega)]
    rfl
  · unfold joinR
    rw [if_neg (fun h => hc h.2), Option.map_none, newR_none]
    rintro ⟨_, h2⟩
    have := (rowsB_iff.1 h2).2.2.1
    omega
end Go.Proofs.Ytgoleefkbjjidaa

/- Rows picked, placed, copied: the program's way and the reference's. -/
namespace Go.Proofs.Ytgoleefkbjjidaa
open Go.RowKit

/-- the values of a row at some columns -/
def pickL (row cols : List Int) : List Int := cols.map fun c => row.getD c.toNat 0
theorem pickL_step {row cols : List Int} {k : Nat} (h : k < cols.length) : pickL row (cols.take (k + 1)) = pickL row (cols.take k) ++ [row.getD cols[k].toNat 0] := by
  unfold pickL
  rw [List.take_succ_eq_append_getElem h, List.map_append]
  rfl
theorem pickL_length (row cols : List Int) : (pickL row cols).length = cols.length := by simp [pickL]
theorem RV.atI' {w : World} {A : Option Addr} {xs : List Int} {n : Nat} (h : RI w A xs) (hk : n < xs.length) : ∃ b o, A = some ⟨b, o, none⟩ ∧ b < w.heap.size ∧ w.cell? ⟨b, o + n, none⟩ = some (.int .i64 (xs.getD n 0)) := by
  rw [getDl _ _ hk]
  exact h.atI hk
set_option maxHeartbeats 1000000 in
theorem pick_any {A A' : Option Addr} {c c' : Nat} {row cols : List Int} {w : World} (h1 : RI w A row) (hc : cols.length ≤ 1000000000) (h2 : RI w A' cols) (hb : ∀ v ∈ cols, 0 ≤ v ∧ v < row.length) :
    Calls Try.prog 107 #[.slice A row.length c, .slice A' cols.length c'] w fun e w' => ∃ v F, e = .returned v ∧ (∃ y, w' = ext w y) ∧ SV 3 1 sI w' v (pickL row cols) F ∧ ∀ b ∈ F, w.heap.size ≤ b := by
  have hS0 := SV.empty (α := Int) (te := 3) (size := 1) (E := sI) w
  have Hb := Lib.hid hb
  clear hb
  go_enter Try.func107, Try.ntmps107
  go_wp2
  go_loopw [5, 11] (fun v i wr => ∃ (k : Nat) (F : List Nat), i = .int .i64 k ∧ k ≤ cols.length ∧ SV 3 1 sI wr v (pickL row (cols.take k)) F ∧ (∀ b ∈ F, w.heap.size ≤ b) ∧ (∃ y, wr = ext w y)) (fun _ i _ => cols.length - (intOf i).toNat)
  case atStart => exact ⟨0, _, rfl, by omega, by simpa [pickL] using hS0, by simp, alloc_ext _ _⟩
  case round =>
    obtain ⟨k, F, rfl, hk, hS, hF, hw⟩ := hrel
    have HF := Lib.hid hF
    clear hF
    by_cases hlt : k < cols.length
    · obtain ⟨b, o, rfl, hb', hc'⟩ := (h2.toExt hw).atI hlt
      obtain ⟨n0, n1⟩ := Hb.out _ (List.getElem_mem hlt)
      have Hst := Lib.hid (pickL_step (row := row) hlt)
      have hlk : (pickL row (cols.take k)).length + 1 ≤ 2000000000 := by rw [pickL_length]; simp; omega
      obtain ⟨n, hn⟩ : ∃ n, cols[k] = n := ⟨_, rfl⟩
      rw [hn] at n0 n1 hc' Hst
      clear hn
      obtain ⟨m, rfl⟩ := Int.eq_ofNat_of_zero_le n0
      rw [Int.toNat_natCast] at Hst
      obtain ⟨b1, o1, rfl, hb1, hc1⟩ := (h1.toExt hw).atI' (n := m) (by omega)
      obtain ⟨x, hx⟩ : ∃ x, row.getD m 0 = x := ⟨_, rfl⟩
      rw [hx] at hc1 Hst
      clear hx
      have n2 : (m : Int) < row.length := n1
      go_wp2_with (at_builtin; refine wpList_app1 (E := sI) (d := x) rfl _ _ _ rfl tI rfl rfl rfl (by simp) (fun _ => ⟨rfl, rfl⟩) rfl (by simp [Value.oneCell']) hS hlk (by omega) ?_; intro v' w' F' hS' hC' hF')
      exact ⟨⟨k + 1, F', by go_num, by omega, by rw [Hst.out]; exact hS', newer HF.out (size_of_ext hw) hF', hC'.isExt hw HF.out⟩, by simp [intOf]; omega⟩
    · rw [List.take_of_length_le (by omega)] at hS
      go_wp2
      go_ret
      exact ⟨_, F, rfl, hw, hS, HF.out⟩
set_option maxHeartbeats 1000000 in
theorem l5Cols_any {A A' : Option Addr} {c c' : Nat} {row cols : List Int} {w : World} (h1 : RI w A row) (hc : cols.length ≤ 1000000000) (h2 : RI w A' cols) (hb : ∀ v ∈ cols, 0 ≤ v ∧ v < row.length) :
    Calls Try.prog 66 #[.slice A row.length c, .slice A' cols.length c'] w fun e w' => ∃ v F, e = .returned v ∧ (∃ y, w' = ext w y) ∧ SV 3 1 sI w' v (pickL row cols) F ∧ ∀ b ∈ F, w.heap.size ≤ b := by
  have hS0 := SV.empty (α := Int) (te := 3) (size := 1) (E := sI) w
  have Hb := Lib.hid hb
  clear hb
  go_enter Try.func66, Try.ntmps66
  go_wp2
  go_loopw [5, 6] (fun v i wr => ∃ (k : Nat) (F : List Nat), i = .int .i64 k ∧ k ≤ cols.length ∧ SV 3 1 sI wr v (pickL row (cols.take k)) F ∧ (∀ b ∈ F, w.heap.size ≤ b) ∧ (∃ y, wr = ext w y)) (fun _ i _ => cols.length - (intOf i).toNat)
  case atStart => exact ⟨0, _, rfl, by omega, by simpa [pickL] using hS0, by simp, alloc_ext _ _⟩
  case round =>
    obtain ⟨k, F, rfl, hk, hS, hF, hw⟩ := hrel
    have HF := Lib.hid hF
    clear hF
    by_cases hlt : k < cols.length
    · obtain ⟨b, o, rfl, hb', hc'⟩ := (h2.toExt hw).atI hlt
      obtain ⟨n0, n1⟩ := Hb.out _ (List.getElem_mem hlt)
      have Hst := Lib.hid (pickL_step (row := row) hlt)
      have hlk : (pickL row (cols.take k)).length + 1 ≤ 2000000000 := by rw [pickL_length]; simp; omega
      obtain ⟨n, hn⟩ : ∃ n, cols[k] = n := ⟨_, rfl⟩
      rw [hn] at n0 n1 hc' Hst
      clear hn
      obtain ⟨m, rfl⟩ := Int.eq_ofNat_of_zero_le n0
      rw [Int.toNat_natCast] at Hst
      obtain ⟨b1, o1, rfl, hb1, hc1⟩ := (h1.toExt hw).atI' (n := m) (by omega)
      obtain ⟨x, hx⟩ : ∃ x, row.getD m 0 = x := ⟨_, rfl⟩
      rw [hx] at hc1 Hst
      clear hx
      have n2 : (m : Int) < row.length := n1
      go_wp2_with (at_builtin; refine wpList_app1 (E := sI) (d := x) rfl _ _ _ rfl tI rfl rfl rfl (by simp) (fun _ => ⟨rfl, rfl⟩) rfl (by simp [Value.oneCell']) hS hlk (by omega) ?_; intro v' w' F' hS' hC' hF')
      exact ⟨⟨k + 1, F', by go_num, by omega, by rw [Hst.out]; exact hS', newer HF.out (size_of_ext hw) hF', hC'.isExt hw HF.out⟩, by simp [intOf]; omega⟩
    · rw [List.take_of_length_le (by omega)] at hS
      go_wp2
      go_ret
      exact ⟨_, F, rfl, hw, hS, HF.out⟩
def fitsC (a : Int) (cols : List Int) : Bool := decide (cols.length ≤ 5) && cols.all fun c => inB c 0 (a - 1)
theorem fitsC_iff {a : Int} {cols : List Int} : fitsC a cols = true ↔ cols.length ≤ 5 ∧ ∀ v ∈ cols, 0 ≤ v ∧ v < a := by
  unfold fitsC
  rw [Bool.and_eq_true, decide_eq_true_eq, List.all_eq_true]
  refine and_congr_right fun _ => ?_
  constructor
  · intro h v hv; have := inB_t (h v hv); omega
  · intro h v hv; have := h v hv; simp [inB]; omega
set_option maxHeartbeats 400000 in
theorem columnsFit_any {A : Option Addr} {c : Nat} {a : Int} {cols : List Int} {w : World} (ha0 : -1000000000 ≤ a) (ha1 : a ≤ 1000000000) (hx : cols.length ≤ 1000000000) (h1 : RI w A cols) :
    Calls Try.prog 110 #[.int .i64 a, .slice A cols.length c] w fun e w' => e = .returned (.bool (fitsC a cols)) ∧ w = w' := by
  by_cases h5 : cols.length ≤ 5
  · have HE := Lib.hid (show fitsC a cols = cols.all fun c => inB c 0 (a - 1) by unfold fitsC; rw [decide_eq_true h5, Bool.true_and])
    go_enter Try.func110, Try.ntmps110
    go_wp2
    go_loop [12] (fun i => ∃ k : Nat, i = .int .i64 k ∧ k ≤ cols.length ∧ ((cols.drop k).all fun c => inB c 0 (a - 1)) = cols.all fun c => inB c 0 (a - 1)) (fun i => cols.length - (intOf i).toNat)
    case atStart => exact ⟨0, rfl, by omega, by simp⟩
    case round =>
      obtain ⟨k, rfl, hk, hj⟩ := hrel
      have Hj := Lib.hid hj
      clear hj
      by_cases hlt : k < cols.length
      · obtain ⟨b, o, rfl, hb, hc⟩ := h1.atI hlt
        have e := Hj.out
        rw [allR_step hlt] at e
        obtain ⟨t, ht⟩ : ∃ t, inB cols[k] 0 (a - 1) = t := ⟨_, rfl⟩
        rw [ht] at e
        have HT := Lib.hid ht
        have He := Lib.hid e
        clear e ht
        cases t
        · go_wp2_with (go_at_call 119; refine (within_any _ _ _ _).mono ?_; rintro e w' ⟨rfl, rfl⟩; rw [HT.out])
          go_ret
          exact ⟨by rw [HE.out, ← He.out]; rfl, rfl⟩
        · go_wp2_with (go_at_call 119; refine (within_any _ _ _ _).mono ?_; rintro e w' ⟨rfl, rfl⟩; rw [HT.out])
          exact ⟨⟨k + 1, by go_num, by omega, by simpa using He.out⟩, by simp [intOf]; omega⟩
      · have e := Hj.out
        rw [allR_end hlt] at e
        have He := Lib.hid e
        clear e
        go_wp2
        go_ret
        exact ⟨by rw [HE.out, ← He.out]; rfl, rfl⟩
  · have HE := Lib.hid (show fitsC a cols = false by unfold fitsC; rw [decide_eq_false h5, Bool.false_and])
    go_enter Try.func110, Try.ntmps110
    go_wp2
    go_ret
    exact ⟨by rw [HE.out]; rfl, rfl⟩
/-- where a search by halves stands -/
def PlI (rows : List (List Int)) (row : List Int) (lo hi : Nat) : Prop := AscR rows → (∀ i (_ : i < rows.length), i < lo → cmpL rows[i] row < 0) ∧ ∀ i (_ : i < rows.length), hi ≤ i → ¬ cmpL rows[i] row < 0
theorem PlI.up {rows : List (List Int)} {row : List Int} {lo hi m : Nat} (h : PlI rows row lo hi) (hm : m < rows.length) (hc : cmpL rows[m] row < 0) : PlI rows row (m + 1) hi := fun ha => by
  refine ⟨fun i hi hlt => ?_, (h ha).2⟩
  rcases Nat.lt_or_eq_of_le (Nat.le_of_lt_succ hlt) with k | k
  · exact cmpL_trans (asc_get ha k hm) hc
  · subst k; exact hc
theorem PlI.down {rows : List (List Int)} {row : List Int} {lo hi m : Nat} (h : PlI rows row lo hi) (hm : m < rows.length) (hc : ¬ cmpL rows[m] row < 0) : PlI rows row lo m := fun ha => by
  refine ⟨(h ha).1, fun i hi hle => ?_⟩
  rcases Nat.lt_or_eq_of_le hle with k | k
  · exact fun hl => hc (cmpL_trans (asc_get ha k hi) hl)
  · subst k; exact hc
theorem PlI.start (rows : List (List Int)) (row : List Int) : PlI rows row 0 rows.length := fun _ => ⟨fun i _ h => by omega, fun i h k => by omega⟩
def PlP (rows : List (List Int)) (row : List Int) (w : World) (e : Ending) (w' : World) : Prop :=
  ∃ (k : Nat) (b : Bool), e = .returned (.tuple #[.int .i64 k, .bool b]) ∧ k ≤ rows.length ∧ (AscR rows → b = decide (row ∈ rows)) ∧ PlI rows row k k ∧ ∃ y, w' = ext w y
theorem plp_end {rows : List (List Int)} {row : List Int} {k : Nat} {b : Bool} (h : PlI rows row k k) (hb : b = (decide (k < rows.length) && decide (cmpL (rows.getD k []) row = 0))) : AscR rows → b = decide (row ∈ rows) := fun ha => by
  rw [hb]; exact place_mem ha (h ha).1 (h ha).2
set_option maxHeartbeats 2000000 in
theorem place_any {A A' : Option Addr} {c c' : Nat} {rows : List (List Int)} {row : List Int} {w : World} (hx : rows.length ≤ 1000000000) (hxl : ∀ x ∈ rows, x.length ≤ 1000000000) (h1 : RII w A rows) (hr : row.length ≤ 1000000000) (h2 : RI w A' row) :
    Calls Try.prog 142 #[.slice A rows.length c, .slice A' row.length c'] w (PlP rows row w) := by
  have Hxl := Lib.hid hxl
  clear hxl
  go_enter Try.func142, Try.ntmps142
  go_wp2
  go_loopw [6, 7] (fun l h wr => ∃ lo hi : Nat, l = .int .i64 lo ∧ h = .int .i64 hi ∧ lo ≤ hi ∧ hi ≤ rows.length ∧ Hid (PlI rows row lo hi) ∧ (∃ y, wr = ext w y)) (fun l h _ => (intOf h).toNat - (intOf l).toNat)
  case atStart => exact ⟨0, rows.length, rfl, rfl, by omega, by omega, Lib.hid (PlI.start _ _), refl_ext w⟩
  case round =>
    obtain ⟨lo, hi, rfl, rfl, hlh, hhl, HP, hw⟩ := hrel
    by_cases hlt : lo < hi
    · have hm1 : lo ≤ (lo + hi) / 2 := by omega
      have hm2 : (lo + hi) / 2 < hi := by omega
      have HM := Lib.hid (show ((lo : Int) + (hi : Int)) / 2 = (((lo + hi) / 2 : Nat) : Int) by omega)
      obtain ⟨m, hm⟩ : ∃ m, (lo + hi) / 2 = m := ⟨_, rfl⟩
      rw [hm] at hm1 hm2 HM
      clear hm
      have hml : m < rows.length := by omega
      obtain ⟨b, o, A1, c1, rfl, hb, hc, hv⟩ := (h1.toExt hw).atV hml
      have lx := Hxl.out rows[m] (List.getElem_mem hml)
      have HU := Lib.hid (HP.out.up hml)
      have HD := Lib.hid (HP.out.down hml)
      obtain ⟨x, hx1⟩ : ∃ x, rows[m] = x := ⟨_, rfl⟩
      rw [hx1] at hc hv lx HU HD
      obtain ⟨C, hC⟩ : ∃ C, cmpL x row = C := ⟨_, rfl⟩
      rw [hC] at HU HD
      have HC := Lib.hid hC
      clear hx1 hC
      go_upto_region 4 with fail
      rw [HM.out]
      by_cases h0 : C < 0
      · have HU2 := Lib.hid (HU.out h0)
        go_wp2_with (go_at_call 125; refine (CompareRows_any lx hv hr (h2.toExt hw)).mono ?_; rintro e w1 ⟨rfl, hx1⟩; rw [HC.out])
        exact ⟨⟨m + 1, hi, by go_num, rfl, by omega, hhl, HU2, trans_ext hw hx1⟩, by simp [intOf]; omega⟩
      · have HD2 := Lib.hid (HD.out h0)
        go_wp2_with (go_at_call 125; refine (CompareRows_any lx hv hr (h2.toExt hw)).mono ?_; rintro e w1 ⟨rfl, hx1⟩; rw [HC.out])
        exact ⟨⟨lo, m, rfl, rfl, by omega, by omega, HD2, trans_ext hw hx1⟩, by simp [intOf]; omega⟩
    · obtain rfl : lo = hi := by omega
      by_cases hl : lo < rows.length
      · obtain ⟨b, o, A1, c1, rfl, hb, hc, hv⟩ := (h1.toExt hw).atV hl
        have lx := Hxl.out rows[lo] (List.getElem_mem hl)
        have HG := Lib.hid (getDl rows [] hl)
        obtain ⟨x, hx1⟩ : ∃ x, rows[lo] = x := ⟨_, rfl⟩
        rw [hx1] at hc hv lx HG
        obtain ⟨C, hC⟩ : ∃ C, cmpL x row = C := ⟨_, rfl⟩
        have HC := Lib.hid hC
        have HE := Lib.hid (plp_end (b := (C == 0)) HP.out (by rw [HG.out, hC, decide_eq_true hl, Bool.true_and]; rfl))
        clear hx1 hC
        go_wp2_with (go_at_call 125; refine (CompareRows_any lx hv hr (h2.toExt hw)).mono ?_; rintro e w1 ⟨rfl, hx1⟩; rw [HC.out])
        go_ret2
        exact ⟨lo, _, rfl, hhl, HE.out, HP.out, trans_ext hw hx1⟩
      · have HE := Lib.hid (plp_end (b := false) HP.out (by rw [decide_eq_false hl, Bool.false_and]))
        go_wp2
        go_ret2
        exact ⟨lo, _, rfl, hhl, HE.out, HP.out, hw⟩
end Go.Proofs.Ytgoleefkbjjidaa

/- Rows and relations copied; a row placed, by the reference. -/
namespace Go.Proofs.Ytgoleefkbjjidaa
open Go.RowKit

set_option maxHeartbeats 2000000 in
theorem l5Place_any {z : Int} {A A' : Option Addr} {c c' : Nat} {rows : List (List Int)} {row : List Int} {w : World} (hx : rows.length ≤ 1000000000) (hxl : ∀ x ∈ rows, x.length ≤ 1000000000) (h1 : RII w A rows) (hr : row.length ≤ 1000000000) (h2 : RI w A' row) :
    Calls Try.prog 65 #[.agg #[.int .i64 z, .slice A rows.length c], .slice A' row.length c'] w (PlP rows row w) := by
  have Hxl := Lib.hid hxl
  clear hxl
  go_enter Try.func65, Try.ntmps65
  go_upto_region 1 with fail
  refine wp_name ?_
  intro W hW
  have xW : ∃ y, W = ext w y := by rw [hW.out]; exact (by refine Chg.isExt (F := []) ?_ (refl_ext _) (by simp); repeat (with_reducible (first | exact Chg.refl _ _ | exact Nat.le_refl _ | exact Chg.ofExt (by assumption) | refine Chg.trans0 ?_ (by assumption) | refine Chg.extS ?_ _ | refine Chg.alloc ?_ _ | refine Chg.drew ?_ | refine Chg.setCellE ?_ ?_ _ | refine le_addk ?_ _ | refine le_ext ?_ | refine le_alloc ?_ _ | refine le_setC ?_ _ _ | refine le_drew ?_ | assumption | (refine Nat.le_of_lt ?_; omega) | omega)))
  have BW0 : BoxAt W (w.heap.size) #[.int .i64 z, .slice A rows.length c] := by rw [hW.out]; refine ⟨?_, fun j => ?_, fun j => ?_⟩ <;> go_simp
  obtain ⟨lW0, bW0, fW0⟩ := BW0
  have cW0_0 : W.cell? ⟨w.heap.size, 0, none⟩ = some (.int .i64 z) := bW0 0
  have cW0_1 : W.cell? ⟨w.heap.size, 1, none⟩ = some (.slice A rows.length c) := bW0 1
  clear hW
  have PW : BoxAt W w.heap.size #[.int .i64 z, .slice A rows.length c] := ⟨lW0, bW0, fW0⟩
  go_wp2
  clear lW0 bW0 fW0 cW0_0 cW0_1
  go_loopw [6, 7] (fun l h wr => ∃ lo hi : Nat, l = .int .i64 lo ∧ h = .int .i64 hi ∧ lo ≤ hi ∧ hi ≤ rows.length ∧ Hid (PlI rows row lo hi) ∧ (∃ y, wr = ext W y)) (fun l h _ => (intOf h).toNat - (intOf l).toNat)
  case atStart => exact ⟨0, rows.length, rfl, rfl, by omega, by omega, Lib.hid (PlI.start _ _), refl_ext W⟩
  case round =>
    obtain ⟨lo, hi, rfl, rfl, hlh, hhl, HP, hy⟩ := hrel
    obtain ⟨l1, a1, a1', f1⟩ := bx2 (PW.toExt hy)
    have hw := trans_ext xW hy
    by_cases hlt : lo < hi
    · have hm1 : lo ≤ (lo + hi) / 2 := by omega
      have hm2 : (lo + hi) / 2 < hi := by omega
      have HM := Lib.hid (show ((lo : Int) + (hi : Int)) / 2 = (((lo + hi) / 2 : Nat) : Int) by omega)
      obtain ⟨m, hm⟩ : ∃ m, (lo + hi) / 2 = m := ⟨_, rfl⟩
      rw [hm] at hm1 hm2 HM
      clear hm
      have hml : m < rows.length := by omega
      obtain ⟨b, o, A1, c1, rfl, hb, hc, hv⟩ := (h1.toExt hw).atV hml
      have lx := Hxl.out rows[m] (List.getElem_mem hml)
      have HU := Lib.hid (HP.out.up hml)
      have HD := Lib.hid (HP.out.down hml)
      obtain ⟨x, hx1⟩ : ∃ x, rows[m] = x := ⟨_, rfl⟩
      rw [hx1] at hc hv lx HU HD
      obtain ⟨C, hC⟩ : ∃ C, cmpL x row = C := ⟨_, rfl⟩
      rw [hC] at HU HD
      have HC := Lib.hid hC
      clear hx1 hC
      go_upto_region 5 with fail
      rw [HM.out]
      by_cases h0 : C < 0
      · have HU2 := Lib.hid (HU.out h0)
        go_wp2_with (go_at_call 74; refine (specCompareRows_any lx hv hr (h2.toExt hw)).mono ?_; rintro e w1 ⟨rfl, hx1⟩; rw [HC.out])
        exact ⟨⟨m + 1, hi, by go_num, rfl, by omega, hhl, HU2, trans_ext hy hx1⟩, by simp [intOf]; omega⟩
      · have HD2 := Lib.hid (HD.out h0)
        go_wp2_with (go_at_call 74; refine (specCompareRows_any lx hv hr (h2.toExt hw)).mono ?_; rintro e w1 ⟨rfl, hx1⟩; rw [HC.out])
        exact ⟨⟨lo, m, rfl, rfl, by omega, by omega, HD2, trans_ext hy hx1⟩, by simp [intOf]; omega⟩
    · obtain rfl : lo = hi := by omega
      by_cases hl : lo < rows.length
      · obtain ⟨b, o, A1, c1, rfl, hb, hc, hv⟩ := (h1.toExt hw).atV hl
        have lx := Hxl.out rows[lo] (List.getElem_mem hl)
        have HG := Lib.hid (getDl rows [] hl)
        obtain ⟨x, hx1⟩ : ∃ x, rows[lo] = x := ⟨_, rfl⟩
        rw [hx1] at hc hv lx HG
        obtain ⟨C, hC⟩ : ∃ C, cmpL x row = C := ⟨_, rfl⟩
        have HC := Lib.hid hC
        have HE := Lib.hid (plp_end (b := (C == 0)) HP.out (by rw [HG.out, hC, decide_eq_true hl, Bool.true_and]; rfl))
        clear hx1 hC
        go_wp2_with (go_at_call 74; refine (specCompareRows_any lx hv hr (h2.toExt hw)).mono ?_; rintro e w1 ⟨rfl, hx1⟩; rw [HC.out])
        go_ret2
        exact ⟨lo, _, rfl, hhl, HE.out, HP.out, trans_ext hw hx1⟩
      · have HE := Lib.hid (plp_end (b := false) HP.out (by rw [decide_eq_false hl, Bool.false_and]))
        go_wp2
        go_ret2
        exact ⟨lo, _, rfl, hhl, HE.out, HP.out, hw⟩
set_option maxHeartbeats 1000000 in
theorem copyRows_any {A : Option Addr} {c : Nat} {rows : List (List Int)} {w : World} (hx : rows.length ≤ 1000000000) (hxl : ∀ x ∈ rows, x.length ≤ 1000000000) (h1 : RII w A rows) :
    Calls Try.prog 124 #[.slice A rows.length c] w fun e w' => ∃ v F, e = .returned v ∧ (∃ y, w' = ext w y) ∧ SV 22 1 (sSl 3 1 sI) w' v rows F ∧ F.Nodup ∧ ∀ b ∈ F, w.heap.size ≤ b := by
  have Hxl := Lib.hid hxl
  clear hxl
  go_enter Try.func124, Try.ntmps124
  go_wp2
  go_loopw [3, 8] (fun v i wr => ∃ (k : Nat) (F : List Nat), i = .int .i64 k ∧ k ≤ rows.length ∧ SV 22 1 (sSl 3 1 sI) wr v (rows.take k) F ∧ Hid F.Nodup ∧ (∀ b ∈ F, w.heap.size ≤ b) ∧ (∃ y, wr = ext w y)) (fun _ i _ => rows.length - (intOf i).toNat)
  case atStart => exact ⟨0, [], rfl, by omega, SV.nil, Lib.hid (by simp), by simp, refl_ext w⟩
  case round =>
    obtain ⟨k, F, rfl, hk, hS, HN, hF, hw⟩ := hrel
    have HF := Lib.hid hF
    clear hF
    by_cases hlt : k < rows.length
    · obtain ⟨b, o, A1, c1, rfl, hb, hc, hv⟩ := (h1.toExt hw).atV hlt
      have lx := Hxl.out rows[k] (List.getElem_mem hlt)
      have Ht := Lib.hid (show rows.take (k + 1) = rows.take k ++ [rows[k]] from List.take_succ_eq_append_getElem hlt)
      have hlk : (rows.take k).length + 1 ≤ 2000000000 := by simp; omega
      have hSlt := Lib.hid hS.lt
      obtain ⟨x, hx1⟩ : ∃ x, rows[k] = x := ⟨_, rfl⟩
      rw [hx1] at hc hv lx Ht
      clear hx1
      go_wp2_with (first
        | (go_at_call 68; refine (copyInts_v lx hv).mono ?_; rintro e w1 ⟨v1, F1, rfl, hx1, hS1, hF1⟩; obtain ⟨A2, c2, rfl, _, _⟩ := hS1.form; have hN2 := nodup_more HN.out hS1.nodup hSlt.out hF1; have hz1 := size_of_ext hx1)
        | (at_builtin; refine wpList_appN (E := sSl 3 1 sI) (d := x) (G := F1) rfl _ _ _ rfl tIIr rfl rfl rfl (by simp) ⟨_, rfl, hS1⟩ rfl (by simp [Value.oneCell']) (hS.toExt hx1) hN2 hlk (by omega) ?_; intro v' w' F' hS' hC' hN' hF'))
      refine ⟨⟨k + 1, F', by go_num, by omega, by rw [Ht.out]; exact hS', Lib.hid hN', fun b hb => ?_, hC'.isExt (trans_ext hw hx1) HF.out⟩, by simp [intOf]; omega⟩
      have hzw := size_of_ext hw
      rcases hF' b hb with h | h | h
      · exact HF.out b h
      · have := hF1 b h; omega
      · omega
    · rw [List.take_of_length_le (by omega)] at hS
      go_wp2
      go_ret
      exact ⟨_, F, rfl, hw, hS, HN.out, HF.out⟩
set_option maxHeartbeats 1000000 in
theorem copyRelation_any {z : Int} {A : Option Addr} {c : Nat} {rows : List (List Int)} {w : World} (hx : rows.length ≤ 1000000000) (hxl : ∀ x ∈ rows, x.length ≤ 1000000000) (h1 : RII w A rows) :
    Calls Try.prog 89 #[.agg #[.int .i64 z, .slice A rows.length c]] w fun e w' => ∃ v0 v1 F, e = .returned (.agg #[v0, v1]) ∧ (∃ y, w' = ext w y) ∧ sRel w' [v0, v1] (z, rows) F ∧ F.Nodup ∧ ∀ b ∈ F, w.heap.size ≤ b := by
  have Hxl := Lib.hid hxl
  clear hxl
  go_enter Try.func89, Try.ntmps89
  go_upto_region 1 with fail
  refine wp_name ?_
  intro w0 hw0
  have hx0 : ∃ y, w0 = ext w y := by rw [hw0.out]; exact (by refine Chg.isExt (F := []) ?_ (refl_ext _) (by simp); repeat (with_reducible (first | exact Chg.refl _ _ | exact Nat.le_refl _ | exact Chg.ofExt (by assumption) | refine Chg.trans0 ?_ (by assumption) | refine Chg.extS ?_ _ | refine Chg.alloc ?_ _ | refine Chg.drew ?_ | refine Chg.setCellE ?_ ?_ _ | refine le_addk ?_ _ | refine le_ext ?_ | refine le_alloc ?_ _ | refine le_setC ?_ _ _ | refine le_drew ?_ | assumption | (refine Nat.le_of_lt ?_; omega) | omega)))
  have P0 : BoxAt w0 w.heap.size #[.int .i64 z, .slice A rows.length c] := by rw [hw0.out]; exact (by repeat (with_reducible (first | assumption | exact BoxAt.new _ _ _ | apply BoxAt.set2 | refine BoxAt.set2' ?_ (by omega) | apply BoxAt.setP0 | apply BoxAt.setP1 | refine BoxAt.setO ?_ (by omega) | refine BoxAt.alloc ?_ _ | refine BoxAt.drew ?_ | refine BoxAt.toExt ?_ (by assumption))))
  have R0 : BoxAt w0 (w.heap.size + 1) #[.int .i64 0, .slice none 0 0] := by
    rw [hw0.out]
    simpa using BoxAt.new (w.alloc (.cells #[.int .i64 z, .slice A rows.length c] 29)) #[.int .i64 0, .slice none 0 0] 29
  obtain ⟨l0, k0, k0', f0⟩ := bx2 P0
  obtain ⟨m0, n0, n0', g0⟩ := bx2 R0
  have hz0 := size_of_ext hx0
  clear hw0
  go_region_held3 (fun w' => w'.cell? ⟨w.heap.size, 0, none⟩ = some (.int .i64 z) ∧ w'.cell? ⟨w.heap.size, 1, none⟩ = some (.slice A rows.length c)) (first | go_keep | exact ⟨k1, k1'⟩) ((go_at_call 124; refine (copyRows_any hx Hxl.out (h1.toExt (by refine Chg.isExt (F := []) ?_ (refl_ext _) (by simp); repeat (with_reducible (first | exact Chg.refl _ _ | exact Nat.le_refl _ | exact Chg.ofExt (by assumption) | refine Chg.trans0 ?_ (by assumption) | refine Chg.extS ?_ _ | refine Chg.alloc ?_ _ | refine Chg.drew ?_ | refine Chg.setCellE ?_ ?_ _ | refine le_addk ?_ _ | refine le_ext ?_ | refine le_alloc ?_ _ | refine le_setC ?_ _ _ | refine le_drew ?_ | assumption | (refine Nat.le_of_lt ?_; omega) | omega))))).mono ?_; rintro e w1 ⟨v1, F1, rfl, hx1, hS1, hN1, hF1⟩; obtain ⟨A1, c1, rfl, _, _⟩ := hS1.form; obtain ⟨l1, k1, k1', f1⟩ := bx2 (P0.drew.toExt hx1); obtain ⟨m1, n1, n1', g1⟩ := bx2 (R0.drew.toExt hx1)))
  go_wp2_with fail
  have hz1 := size_of_ext hx1
  refine bodyPost_ret (v := .agg #[.int .i64 z, .slice A1 rows.length c1]) (by simp [results, Try.results89, go_sem, *]) rfl ⟨_, _, F1, rfl, (by refine Chg.isExt (F := []) ?_ (refl_ext _) (by simp); repeat (with_reducible (first | exact Chg.refl _ _ | exact Nat.le_refl _ | exact Chg.ofExt (by assumption) | refine Chg.trans0 ?_ (by assumption) | refine Chg.extS ?_ _ | refine Chg.alloc ?_ _ | refine Chg.drew ?_ | refine Chg.setCellE ?_ ?_ _ | refine le_addk ?_ _ | refine le_ext ?_ | refine le_alloc ?_ _ | refine le_setC ?_ _ _ | refine le_drew ?_ | assumption | (refine Nat.le_of_lt ?_; omega) | omega))), sRel_mk (OD.chg (E := sII) (G := [w.heap.size + 1]) ⟨_, rfl, hS1⟩ (by repeat (with_reducible (first | exact Chg.refl _ _ | refine Chg.trans0 ?_ (by assumption) | refine Chg.extS ?_ _ | refine Chg.alloc ?_ _ | refine Chg.drew ?_ | refine Chg.setCell ?_ (.inl (by simp)) _))) ?_), hN1, ?_⟩
  · intro b hb h
    have := hF1 b hb
    simp at h this
    omega
  · intro b hb
    have := hF1 b hb
    simp at this
    omega
end Go.Proofs.Ytgoleefkbjjidaa

/- Numbers as decimal texts, texts divided at a byte, digits as a number: plain laws, no program in them. -/
namespace Go.Proofs.Ytgoleefkbjjidaa
open Go.RowKit

def dec (n : Nat) : List UInt8 := if _h : n < 10 then [UInt8.ofNat (48 + n)] else dec (n / 10) ++ [UInt8.ofNat (48 + n % 10)]
termination_by n
decreasing_by omega
def bs (l : List UInt8) : ByteArray := ⟨l.toArray⟩
def decI (z : Int) : ByteArray := if z < 0 then bs (45 :: dec z.natAbs) else bs (dec z.natAbs)
theorem dec_small {n : Nat} (h : n < 10) : dec n = [UInt8.ofNat (48 + n)] := by rw [dec, dif_pos h]
theorem dec_big {n : Nat} (h : ¬ n < 10) : dec n = dec (n / 10) ++ [UInt8.ofNat (48 + n % 10)] := by rw [dec, dif_neg h]
theorem bs_append (a b : List UInt8) : bs a ++ bs b = bs (a ++ b) := by
  apply Go.WideShapes.bytes_inj
  simp [bs]
theorem neg_td {z : Int} (h : z ≤ 0) : z.tdiv 10 = -((-z) / 10) := by
  rw [show z.tdiv 10 = (-(-z)).tdiv 10 by rw [Int.neg_neg], Int.neg_tdiv, Int.tdiv_eq_ediv_of_nonneg (by omega)]
theorem neg_tm {z : Int} (h : z ≤ 0) : z.tmod 10 = -((-z) % 10) := by
  rw [show z.tmod 10 = (-(-z)).tmod 10 by rw [Int.neg_neg], Int.neg_tmod, Int.tmod_eq_emod_of_nonneg (by omega)]
theorem decI_neg {z : Int} (h : z ≤ -10) : bs [45] ++ decI (-z.tdiv 10) ++ decI (-z.tmod 10) = decI z := by
  have e1 := neg_td (z := z) (by omega)
  have e2 := neg_tm (z := z) (by omega)
  rw [e1, e2]
  unfold decI
  rw [if_neg (by omega), if_neg (by omega), if_pos (by omega), bs_append, bs_append, dec_big (n := z.natAbs) (by omega), dec_small (n := (- -(-z % 10)).natAbs) (by omega)]
  rw [show (- -(-z / 10)).natAbs = z.natAbs / 10 by omega, show (- -(-z % 10)).natAbs = z.natAbs % 10 by omega]
  rfl
theorem decI_neg1 {z : Int} (h : z < 0) : bs [45] ++ decI (-z) = decI z := by
  unfold decI
  rw [if_neg (by omega), if_pos h, bs_append, Int.natAbs_neg]
  rfl
theorem decI_one {z : Int} (h : 0 ≤ z) (h2 : z < 10) : bs [UInt8.ofNat (48 + z).toNat] = decI z := by
  unfold decI
  rw [if_neg (by omega), dec_small (by omega), show (48 + z).toNat = 48 + z.natAbs by omega]
theorem decI_pos {z : Int} (h : 10 ≤ z) : decI (z / 10) ++ bs [UInt8.ofNat (48 + z % 10).toNat] = decI z := by
  unfold decI
  rw [if_neg (by omega), if_neg (by omega), dec_big (n := z.natAbs) (by omega), bs_append, show (z / 10).natAbs = z.natAbs / 10 by omega, show (48 + z % 10).toNat = 48 + z.natAbs % 10 by omega]
theorem dec_length : ∀ (k n : Nat), 1 ≤ k → n < 10 ^ k → (dec n).length ≤ k
  | 0, _, h, _ => absurd h (by omega)
  | k + 1, n, _, h => by
    by_cases h1 : n < 10
    · rw [dec_small h1]; simp
    · have hk : 1 ≤ k := by
        rcases Nat.eq_zero_or_pos k with h0 | h0
        · subst h0; simp at h; omega
        · exact h0
      have := dec_length k (n / 10) hk (by rw [Nat.pow_succ] at h; omega)
      rw [dec_big h1]
      simp
      exact this
theorem bs_size (l : List UInt8) : (bs l).size = l.length := by simp [bs, ByteArray.size]
theorem decI_size {z : Int} (h1 : -9223372036854775808 ≤ z) (h2 : z ≤ 9223372036854775807) : (decI z).size ≤ 20 := by
  have := dec_length 19 z.natAbs (by omega) (by omega)
  unfold decI
  split <;> rw [bs_size] <;> simp <;> omega
theorem bs1 (n : Int) : strOfNums [n] = bs [UInt8.ofNat n.toNat] := rfl

theorem dec_ne (n : Nat) : dec n ≠ [] := by
  by_cases h : n < 10
  · rw [dec_small h]; simp
  · rw [dec_big h]; simp
theorem ba_size (a b : ByteArray) : (a ++ b).size = a.size + b.size := ByteArray.size_append
theorem isEmpty_no {s : ByteArray} (h : 1 ≤ s.size) : s.toList.isEmpty = false := by
  rw [ByteArray.toList_eq, List.isEmpty_eq_false_iff]
  intro e
  have h2 : s.data.toList.length = 0 := by rw [e]; rfl
  have h3 : s.size = s.data.toList.length := by rw [Array.length_toList]; rfl
  omega
theorem toList_empty {s : ByteArray} (h : 1 ≤ s.size) : (s.toList == (ByteArray.mk #[]).toList) = false := by
  rw [str_beq]
  apply decide_eq_false
  rintro rfl
  exact absurd h (by decide)
/-! a text divided at a byte -/
def jh (p : List UInt8) : List (List UInt8) → List (List UInt8)
  | [] => [p]
  | q :: qs => (p ++ q) :: qs
def spl (c : UInt8) : List UInt8 → List (List UInt8)
  | [] => [[]]
  | x :: xs => if x = c then [] :: spl c xs else jh [x] (spl c xs)
theorem jh_ne (p : List UInt8) (L : List (List UInt8)) : jh p L ≠ [] := by cases L <;> simp [jh]
theorem spl_ne (c : UInt8) : ∀ l, spl c l ≠ []
  | [] => by simp [spl]
  | x :: xs => by
    unfold spl
    split
    · simp
    · exact jh_ne _ _
theorem jh_nil {L : List (List UInt8)} (h : L ≠ []) : jh [] L = L := by
  cases L with
  | nil => exact absurd rfl h
  | cons q qs => rfl
theorem jh_jh (p q : List UInt8) (L : List (List UInt8)) : jh p (jh q L) = jh (p ++ q) L := by cases L <;> simp [jh]
theorem spl_sep (c : UInt8) (xs : List UInt8) : spl c (c :: xs) = [] :: spl c xs := by rw [spl, if_pos rfl]
theorem spl_other {c x : UInt8} (h : x ≠ c) (xs : List UInt8) : spl c (x :: xs) = jh [x] (spl c xs) := by rw [spl, if_neg h]
theorem spl_app {c : UInt8} {p : List UInt8} (h : ∀ x ∈ p, x ≠ c) (r : List UInt8) : spl c (p ++ r) = jh p (spl c r) := by
  induction p with
  | nil => exact (jh_nil (spl_ne c r)).symm
  | cons x p ih =>
    rw [List.cons_append, spl_other (h x (by simp)), ih fun y hy => h y (by simp [hy]), jh_jh]
    rfl
theorem spl_none {c : UInt8} {p : List UInt8} (h : ∀ x ∈ p, x ≠ c) : spl c p = [p] := by
  have := spl_app h []
  simpa [spl, jh] using this
theorem spl_two {c : UInt8} {p : List UInt8} (h : ∀ x ∈ p, x ≠ c) (r : List UInt8) : spl c (p ++ c :: r) = p :: spl c r := by
  rw [spl_app h, spl_sep]
  simp [jh]
theorem spl_length (c : UInt8) : ∀ l : List UInt8, (spl c l).length ≤ l.length + 1
  | [] => by simp [spl]
  | x :: xs => by
    have h := spl_length c xs
    unfold spl
    split
    · simpa using h
    · cases e : spl c xs with
      | nil => simp [jh]
      | cons q qs => rw [e] at h; simp [jh] at h ⊢; omega
theorem spl_piece (c : UInt8) : ∀ l : List UInt8, ∀ p ∈ spl c l, p.length ≤ l.length
  | [], p, h => by simp [spl] at h; simp [h]
  | x :: xs, p, h => by
    have ih := spl_piece c xs
    unfold spl at h
    split at h
    · rcases List.mem_cons.1 h with e | e
      · simp [e]
      · exact Nat.le_trans (ih p e) (by simp)
    · cases e : spl c xs with
      | nil => exact absurd e (spl_ne c xs)
      | cons q qs =>
        rw [e] at h ih
        rcases List.mem_cons.1 h with e | e
        · subst e; simpa using ih q (by simp)
        · exact Nat.le_trans (ih p (by simp [e])) (by simp)
/-- a round of the loop that divides: 'cut' lies between the last separator and the place k -/
theorem spl_step {c : UInt8} {l cut : List UInt8} {k : Nat} (h : k < l.length) (hc : l[k] ≠ c) : jh cut (spl c (l.drop k)) = jh (cut ++ [l[k]]) (spl c (l.drop (k + 1))) := by
  rw [List.drop_eq_getElem_cons h, spl_other hc, jh_jh]
theorem spl_cut {c : UInt8} {l cut : List UInt8} {k : Nat} (h : k < l.length) (hc : l[k] = c) : jh cut (spl c (l.drop k)) = cut :: spl c (l.drop (k + 1)) := by
  rw [List.drop_eq_getElem_cons h, hc, spl_sep]
  simp [jh]
theorem spl_last {c : UInt8} {l cut : List UInt8} {k : Nat} (h : ¬ k < l.length) : jh cut (spl c (l.drop k)) = [cut] := by
  rw [List.drop_eq_nil_of_le (by omega)]
  simp [spl, jh]

/-! digits as a number -/
def isD (b : UInt8) : Bool := decide (48 ≤ b.toNat ∧ b.toNat ≤ 57)
def numG : Int → List UInt8 → Option Int
  | n, [] => some n
  | n, d :: ds => if isD d = true then numG (10 * n + ((d.toNat : Int) - 48)) ds else none
theorem numG_append : ∀ (n : Int) (a b : List UInt8), numG n (a ++ b) = (numG n a).bind fun m => numG m b
  | _, [], _ => rfl
  | n, d :: a, b => by
    rw [List.cons_append, numG, numG]
    split
    · exact numG_append _ a b
    · rfl
theorem digit_toNat {n : Nat} (h : n < 10) : (UInt8.ofNat (48 + n)).toNat = 48 + n := by
  rw [UInt8.toNat_ofNat', Nat.mod_eq_of_lt (by omega)]
theorem isD_digit {n : Nat} (h : n < 10) : isD (UInt8.ofNat (48 + n)) = true := by
  unfold isD
  rw [digit_toNat h]
  simp; omega
theorem numG_dec (n : Nat) : numG 0 (dec n) = some (n : Int) := by
  induction n using Nat.strongRecOn with
  | _ n ih =>
    by_cases h : n < 10
    · rw [dec_small h, numG, if_pos (isD_digit h), digit_toNat h, numG]
      congr 1; omega
    · rw [dec_big h, numG_append, ih (n / 10) (by omega)]
      simp only [Option.bind, numG]
      rw [if_pos (isD_digit (by omega)), digit_toNat (by omega)]
      congr 1; omega
theorem dec_isD (n : Nat) : ∀ x ∈ dec n, isD x = true := by
  induction n using Nat.strongRecOn with
  | _ n ih =>
    by_cases h : n < 10
    · rw [dec_small h]
      intro x hx
      rw [List.mem_singleton.1 hx]
      exact isD_digit h
    · rw [dec_big h]
      intro x hx
      rcases List.mem_append.1 hx with h1 | h1
      · exact ih _ (by omega) x h1
      · rw [List.mem_singleton.1 h1]
        exact isD_digit (by omega)
theorem isD_ne {x c : UInt8} (h : isD x = true) (hc : isD c = false) : x ≠ c := by
  rintro rfl
  rw [h] at hc
  cases hc
theorem numG_le : ∀ (l : List UInt8) (n m : Int) (k : Nat), numG n l = some m → 0 ≤ n → n < 10 ^ k → 0 ≤ m ∧ m < 10 ^ (k + l.length)
  | [], n, m, k, h, h0, h1 => by
    simp only [numG, Option.some.injEq] at h
    subst h
    exact ⟨h0, by simpa using h1⟩
  | d :: l, n, m, k, h, h0, h1 => by
    rw [numG] at h
    split at h
    · rename_i hd
      have hd : 48 ≤ d.toNat ∧ d.toNat ≤ 57 := by simpa [isD] using hd
      have h2 : (10 : Int) ^ (k + 1) = 10 ^ k * 10 := Int.pow_succ 10 k
      have := numG_le l _ m (k + 1) h (by omega) (by omega)
      rwa [List.length_cons, show k + (l.length + 1) = k + 1 + l.length by omega]
    · cases h

/-! texts as lists of bytes -/
def bl (s : ByteArray) : List UInt8 := s.data.toList
theorem bs_bl (s : ByteArray) : bs (bl s) = s := rfl
theorem bl_bs (l : List UInt8) : bl (bs l) = l := rfl
theorem bl_length (s : ByteArray) : (bl s).length = s.size := by rw [bl, Array.length_toList]; rfl
theorem bl_get (s : ByteArray) {k : Nat} (h : k < s.size) : (bl s)[k]'(by rw [bl_length]; exact h) = s[k] := rfl
theorem bs_inj {a b : List UInt8} (h : bs a = bs b) : a = b := congrArg bl h
theorem bl_inj {a b : ByteArray} (h : bl a = bl b) : a = b := by rw [← bs_bl a, h]; rfl
theorem ext_bs (s : ByteArray) (f k : Nat) : s.extract f k = bs (((bl s).take k).drop f) := by
  apply bl_inj
  simp [bl, bs, ByteArray.data_extract, Array.toList_extract, List.drop_take]
/-- the pieces as texts -/
def splB (c : UInt8) (s : ByteArray) : List ByteArray := (spl c (bl s)).map bs
theorem splB_piece {c : UInt8} {s p : ByteArray} (h : p ∈ splB c s) : p.size ≤ s.size := by
  obtain ⟨q, hq, rfl⟩ := List.mem_map.1 h
  rw [bs_size, ← bl_length]
  exact spl_piece c _ _ hq
theorem splB_length (c : UInt8) (s : ByteArray) : (splB c s).length ≤ s.size + 1 := by
  rw [splB, List.length_map, ← bl_length]
  exact spl_length c _
theorem splB_ne (c : UInt8) (s : ByteArray) : splB c s ≠ [] := by
  rw [splB]; intro h; exact spl_ne c _ (List.map_eq_nil_iff.1 h)
theorem splB_pos (c : UInt8) (s : ByteArray) : 0 < (splB c s).length := List.length_pos_iff.2 (splB_ne c s)
/-- what a loop that divides knows at place k: 'ds' are the pieces so far, the last cut began at f -/
def SplI (c : UInt8) (s : ByteArray) (f k : Nat) (ds : List ByteArray) : Prop := ds ++ (jh (((bl s).take k).drop f) (spl c ((bl s).drop k))).map bs = splB c s
theorem SplI.start (c : UInt8) (s : ByteArray) : SplI c s 0 0 [] := by simp [SplI, splB, jh_nil (spl_ne c _)]
theorem SplI.step {c : UInt8} {s : ByteArray} {f k : Nat} {ds : List ByteArray} (h : SplI c s f k ds) (hk : k < s.size) (hf : f ≤ k) (hc : s[k] ≠ c) : SplI c s f (k + 1) ds := by
  unfold SplI at h ⊢
  have hk' : k < (bl s).length := by rw [bl_length]; exact hk
  rw [spl_step hk' (by rw [bl_get s hk]; exact hc)] at h
  rw [← h, List.take_succ_eq_append_getElem hk', List.drop_append_of_le_length (by simp; omega)]
theorem SplI.cut {c : UInt8} {s : ByteArray} {f k : Nat} {ds : List ByteArray} (h : SplI c s f k ds) (hk : k < s.size) (hc : s[k] = c) : SplI c s (k + 1) (k + 1) (ds ++ [s.extract f k]) := by
  unfold SplI at h ⊢
  have hk' : k < (bl s).length := by rw [bl_length]; exact hk
  rw [spl_cut hk' (by rw [bl_get s hk]; exact hc)] at h
  rw [← h, List.drop_eq_nil_of_le (as := (bl s).take (k + 1)) (i := k + 1) (by simp; omega), jh_nil (spl_ne c _), ext_bs]
  simp
theorem SplI.last {c : UInt8} {s : ByteArray} {f k : Nat} {ds : List ByteArray} (h : SplI c s f k ds) (hk : ¬ k < s.size) : ds ++ [s.extract f k] = splB c s := by
  unfold SplI at h
  rw [spl_last (by rw [bl_length]; exact hk)] at h
  rw [← h, ext_bs]
  simp
end Go.Proofs.Ytgoleefkbjjidaa

/- Names of relations, and lists without repeats; the program's way and the reference's. -/
namespace Go.Proofs.Ytgoleefkbjjidaa
open Go.RowKit

def letB (b : UInt8) : Bool := decide (97 ≤ b.toNat ∧ b.toNat ≤ 122)
def nameB (s : ByteArray) : Bool := inB s.size 1 4 && (bl s).all letB
theorem letB_t {b : UInt8} (h : letB b = true) : 97 ≤ (b.toNat : Int) ∧ (b.toNat : Int) ≤ 122 := by simp [letB] at h; omega
theorem letB_f {b : UInt8} (h : ¬ letB b = true) : (b.toNat : Int) < 97 ∨ 122 < (b.toNat : Int) := by simp [letB] at h; omega
theorem lets_step {s : ByteArray} {k : Nat} (h : k < s.size) : ((bl s).drop k).all letB = (letB s[k] && ((bl s).drop (k + 1)).all letB) := by
  rw [List.drop_eq_getElem_cons (by rw [bl_length]; exact h), List.all_cons, bl_get s h]
theorem lets_end {s : ByteArray} {k : Nat} (h : ¬ k < s.size) : ((bl s).drop k).all letB = true := by
  rw [List.drop_eq_nil_of_le (by rw [bl_length]; omega)]; rfl
set_option maxHeartbeats 400000 in
theorem isLetters_any {s : ByteArray} {w : World} (hs : s.size ≤ 1000000000) :
    Calls Try.prog 147 #[.string s, .int .i64 4] w fun e w' => e = .returned (.bool (nameB s)) ∧ w = w' := by
  by_cases h1 : s.size < 1
  · have HE := Lib.hid (show nameB s = false by unfold nameB inB; rw [decide_eq_false (by omega), Bool.false_and])
    go_enter Try.func147, Try.ntmps147
    go_wp2
    go_ret
    exact ⟨by rw [HE.out]; rfl, rfl⟩
  · by_cases h2 : 4 < s.size
    · have HE := Lib.hid (show nameB s = false by unfold nameB inB; rw [decide_eq_false (by omega), Bool.false_and])
      go_enter Try.func147, Try.ntmps147
      go_wp2
      go_ret
      exact ⟨by rw [HE.out]; rfl, rfl⟩
    · have HE := Lib.hid (show nameB s = (bl s).all letB by unfold nameB inB; rw [decide_eq_true (by omega), Bool.true_and])
      go_enter Try.func147, Try.ntmps147
      go_wp2
      go_loop [5] (fun i => ∃ k : Nat, i = .int .i64 k ∧ k ≤ s.size ∧ ((bl s).drop k).all letB = nameB s) (fun i => s.size - (intOf i).toNat)
      case atStart => exact ⟨0, rfl, by omega, by rw [HE.out]; simp⟩
      case round =>
        obtain ⟨k, rfl, hk, hj⟩ := hrel
        have Hj := Lib.hid hj
        clear hj
        by_cases hlt : k < s.size
        · have e := Hj.out
          rw [lets_step hlt] at e
          by_cases hl : letB s[k] = true
          · obtain ⟨q1, q2⟩ := letB_t hl
            rw [hl, Bool.true_and] at e
            have He := Lib.hid e
            clear e hl
            go_wp2
            exact ⟨⟨k + 1, by go_num, by omega, He.out⟩, by simp [intOf]; omega⟩
          · rw [show letB s[k] = false by simpa using hl, Bool.false_and] at e
            have He := Lib.hid e
            rcases letB_f hl with q | q
            all_goals
              clear e hl
              go_wp2
              go_ret
              exact ⟨by rw [← He.out]; rfl, rfl⟩
        · have e := Hj.out
          rw [lets_end hlt] at e
          have He := Lib.hid e
          clear e
          go_wp2
          go_ret
          exact ⟨by rw [← He.out]; rfl, rfl⟩
theorem IsValidName_any {s : ByteArray} {w : World} (hs : s.size ≤ 1000000000) :
    Calls Try.prog 131 #[.string s] w fun e w' => e = .returned (.bool (nameB s)) ∧ w = w' := by
  go_enter Try.func131, Try.ntmps131
  go_wp2_with (go_at_call 147; refine (isLetters_any hs).mono ?_; rintro e w' ⟨rfl, rfl⟩)
  go_ret
  exact ⟨rfl, rfl⟩
set_option maxHeartbeats 400000 in
theorem specIsValidName_any {s : ByteArray} {w : World} (hs : s.size ≤ 1000000000) :
    Calls Try.prog 127 #[.string s] w fun e w' => e = .returned (.bool (nameB s)) ∧ w = w' := by
  go_enter Try.func127, Try.ntmps127
  go_wp2
  go_loop [3] (fun i => ∃ k : Nat, i = .int .i64 k ∧ k ≤ s.size ∧ ((bl s).drop k).all letB = (bl s).all letB) (fun i => s.size - (intOf i).toNat)
  case atStart => exact ⟨0, rfl, by omega, by simp⟩
  case round =>
    obtain ⟨k, rfl, hk, hj⟩ := hrel
    have Hj := Lib.hid hj
    clear hj
    by_cases hlt : k < s.size
    · have e := Hj.out
      rw [lets_step hlt] at e
      by_cases hl : letB s[k] = true
      · obtain ⟨q1, q2⟩ := letB_t hl
        rw [hl, Bool.true_and] at e
        have He := Lib.hid e
        clear e hl
        go_wp2
        exact ⟨⟨k + 1, by go_num, by omega, He.out⟩, by simp [intOf]; omega⟩
      · rw [show letB s[k] = false by simpa using hl, Bool.false_and] at e
        have He := Lib.hid (show nameB s = false by unfold nameB; rw [← e, Bool.and_false])
        rcases letB_f hl with q | q
        all_goals
          clear e hl
          go_wp2
          go_ret
          exact ⟨by rw [He.out]; rfl, rfl⟩
    · have e := Hj.out
      rw [lets_end hlt] at e
      have He := Lib.hid (show nameB s = inB s.size 1 4 by unfold nameB; rw [← e, Bool.and_true])
      clear e
      go_wp2_with (go_at_call 117; refine (l1In_any _ _ _ _).mono ?_; rintro e w' ⟨rfl, rfl⟩)
      go_ret
      exact ⟨by rw [He.out]; rfl, rfl⟩
/-! a list of numbers below n, each at most once -/
def setB (n : Int) : List Int → List Int → Bool
  | _, [] => true
  | pre, x :: xs => inB x 0 (n - 1) && !decide (x ∈ pre) && setB n (pre ++ [x]) xs
theorem setB_step {n : Int} {xs : List Int} {k : Nat} (h : k < xs.length) : setB n (xs.take k) (xs.drop k) = (inB xs[k] 0 (n - 1) && !decide (xs[k] ∈ xs.take k) && setB n (xs.take (k + 1)) (xs.drop (k + 1))) := by
  rw [List.drop_eq_getElem_cons h, setB, List.take_succ_eq_append_getElem h]
theorem setB_end {n : Int} {xs : List Int} {k : Nat} (h : ¬ k < xs.length) : setB n (xs.take k) (xs.drop k) = true := by
  rw [List.drop_eq_nil_of_le (by omega), setB]
theorem setB_sound : ∀ {n : Int} {xs pre : List Int}, setB n pre xs = true → (∀ x ∈ xs, 0 ≤ x ∧ x < n) ∧ xs.Nodup ∧ ∀ x ∈ xs, x ∉ pre
  | n, [], pre, _ => ⟨by simp, by simp, by simp⟩
  | n, x :: xs, pre, h => by
    rw [setB, Bool.and_eq_true, Bool.and_eq_true] at h
    obtain ⟨⟨h1, h2⟩, h3⟩ := h
    have h1 := inB_t h1
    obtain ⟨a, b, c⟩ := setB_sound h3
    refine ⟨?_, ?_, ?_⟩
    · intro y hy
      rcases List.mem_cons.1 hy with e | e
      · subst e; omega
      · exact a y e
    · refine List.nodup_cons.2 ⟨fun hm => ?_, b⟩
      have := c x hm
      simp at this
    · intro y hy
      rcases List.mem_cons.1 hy with e | e
      · subst e; simpa using h2
      · intro hp
        have := c y e
        simp [hp] at this
theorem nodup_len : ∀ (n : Nat) (xs : List Int), xs.Nodup → (∀ x ∈ xs, 0 ≤ x ∧ x < n) → xs.length ≤ n
  | 0, xs, _, h => by
    cases xs with
    | nil => simp
    | cons x xs => have := h x (by simp); omega
  | n + 1, xs, hn, h => by
    by_cases hm : (n : Int) ∈ xs
    · obtain ⟨s, t, rfl⟩ := List.append_of_mem hm
      have hn2 := List.nodup_append.1 hn
      have hn3 := List.nodup_cons.1 hn2.2.1
      have h2 : (s ++ t).Nodup := List.nodup_append.2 ⟨hn2.1, hn3.2, fun a ha b hb => hn2.2.2 a ha b (by simp [hb])⟩
      have := nodup_len n (s ++ t) h2 fun x hx => by
        have h3 := h x (by rcases List.mem_append.1 hx with e | e <;> simp [e])
        have h4 : x ≠ n := by
          rintro rfl
          rcases List.mem_append.1 hx with e | e
          · exact hn2.2.2 _ e _ (by simp) rfl
          · exact hn3.1 e
        omega
      simp at this ⊢
      omega
    · have := nodup_len n xs hn fun x hx => by
        have h3 := h x hx
        have h4 : x ≠ n := by rintro rfl; exact hm hx
        omega
      omega
theorem setB_len {n : Int} {xs : List Int} (h : setB n [] xs = true) (hn : 0 ≤ n) : (xs.length : Int) ≤ n := by
  obtain ⟨a, b, _⟩ := setB_sound h
  have := nodup_len n.toNat xs b fun x hx => by have := a x hx; omega
  omega
theorem RV.pre {w : World} {α : Type} {size : Nat} {E : VE α} {A : Option Addr} {xs : List α} (h : RV size E w A xs) (k : Nat) : RV size E w A (xs.take k) := fun hn => by
  obtain ⟨b, o, h1, h2, h3⟩ := h (by intro e; subst e; simp at hn)
  refine ⟨b, o, h1, h2, fun j hj => ?_⟩
  simp only [List.length_take] at hj
  obtain ⟨c, hc, hr, he⟩ := h3 j (by omega)
  exact ⟨c, hc, hr, by simpa using he⟩
theorem hasInt_n {A : Option Addr} {c m : Nat} {xs : List Int} {n : Int} {w : World} (hm : xs.length = m) (hx : m ≤ 1000000000) (h1 : RI w A xs) :
    Calls Try.prog 148 #[.slice A m c, .int .i64 n] w fun e w' => e = .returned (.bool (decide (n ∈ xs))) ∧ ∃ y, w' = ext w y := by
  subst hm
  exact hasInt_any hx h1
set_option maxHeartbeats 1000000 in
theorem isSetOf_any {A : Option Addr} {c : Nat} {xs : List Int} {n : Int} {w : World} (hx : xs.length ≤ 1000000000) (hcap : xs.length ≤ c) (h1 : RI w A xs) (hn0 : 0 ≤ n) (hn1 : n ≤ 1000) :
    Calls Try.prog 141 #[.slice A xs.length c, .int .i64 n] w fun e w' => e = .returned (.bool (setB n [] xs)) ∧ ∃ y, w' = ext w y := by
  go_enter Try.func141, Try.ntmps141
  go_wp2
  go_loopw [9] (fun i wr => ∃ k : Nat, i = .int .i64 k ∧ k ≤ xs.length ∧ setB n (xs.take k) (xs.drop k) = setB n [] xs ∧ ∃ y, wr = ext w y) (fun i _ => xs.length - (intOf i).toNat)
  case atStart => exact ⟨0, rfl, by omega, by simp, refl_ext w⟩
  case round =>
    obtain ⟨k, rfl, hk, hj, hy⟩ := hrel
    have Hj := Lib.hid hj
    clear hj
    by_cases hlt : k < xs.length
    · have h1' := h1.toExt hy
      obtain ⟨b, o, rfl, hb, hc⟩ := h1'.atI hlt
      have e := Hj.out
      rw [setB_step hlt] at e
      obtain ⟨t1, ht1⟩ : ∃ t, inB xs[k] 0 (n - 1) = t := ⟨_, rfl⟩
      obtain ⟨t2, ht2⟩ : ∃ t, decide (xs[k] ∈ xs.take k) = t := ⟨_, rfl⟩
      rw [ht1, ht2] at e
      have T1 := Lib.hid ht1
      have T2 := Lib.hid ht2
      have He := Lib.hid e
      have hp := h1'.pre k
      have hpl : (xs.take k).length = k := by simp; omega
      have HP := Lib.hid hpl
      clear e ht1 ht2 hpl
      cases t1 with
      | false =>
        go_wp2_with (go_at_call 119; refine (within_any _ _ _ _).mono ?_; rintro e w' ⟨rfl, rfl⟩; rw [T1.out])
        go_ret
        exact ⟨by rw [← He.out]; rfl, hy⟩
      | true =>
        cases t2 with
        | true =>
          go_wp2_with (first
            | (go_at_call 119; refine (within_any _ _ _ _).mono ?_; rintro e w' ⟨rfl, rfl⟩; rw [T1.out])
            | (go_at_call 148; refine (hasInt_n HP.out (by omega) hp).mono ?_; rintro e w' ⟨rfl, hx1⟩; rw [T2.out]))
          go_ret
          exact ⟨by rw [← He.out]; rfl, (by refine Chg.isExt (F := []) ?_ (refl_ext _) (by simp); repeat (with_reducible (first | exact Chg.refl _ _ | exact Nat.le_refl _ | exact Chg.ofExt (by assumption) | refine Chg.trans0 ?_ (by assumption) | refine Chg.extS ?_ _ | refine Chg.alloc ?_ _ | refine Chg.drew ?_ | refine Chg.setCellE ?_ ?_ _ | refine le_addk ?_ _ | refine le_ext ?_ | refine le_alloc ?_ _ | refine le_setC ?_ _ _ | refine le_drew ?_ | assumption | (refine Nat.le_of_lt ?_; omega) | omega)))⟩
        | false =>
          go_wp2_with (first
            | (go_at_call 119; refine (within_any _ _ _ _).mono ?_; rintro e w' ⟨rfl, rfl⟩; rw [T1.out])
            | (go_at_call 148; refine (hasInt_n HP.out (by omega) hp).mono ?_; rintro e w' ⟨rfl, hx1⟩; rw [T2.out]))
          exact ⟨⟨k + 1, by go_num, by omega, by simpa using He.out, (by refine Chg.isExt (F := []) ?_ (refl_ext _) (by simp); repeat (with_reducible (first | exact Chg.refl _ _ | exact Nat.le_refl _ | exact Chg.ofExt (by assumption) | refine Chg.trans0 ?_ (by assumption) | refine Chg.extS ?_ _ | refine Chg.alloc ?_ _ | refine Chg.drew ?_ | refine Chg.setCellE ?_ ?_ _ | refine le_addk ?_ _ | refine le_ext ?_ | refine le_alloc ?_ _ | refine le_setC ?_ _ _ | refine le_drew ?_ | assumption | (refine Nat.le_of_lt ?_; omega) | omega)))⟩, by simp [intOf]; omega⟩
    · have e := Hj.out
      rw [setB_end hlt] at e
      have He := Lib.hid e
      clear e
      go_wp2
      go_ret
      exact ⟨by rw [← He.out]; rfl, hy⟩
set_option maxHeartbeats 400000 in
theorem l7Find_any {A : Option Addr} {c : Nat} {xs : List Int} {n : Int} {w : World} (hx : xs.length ≤ 1000000000) (h1 : RI w A xs) :
    Calls Try.prog 75 #[.slice A xs.length c, .int .i64 n] w fun e w' => e = .returned (.int .i64 (iof 0 n xs)) ∧ ∃ y, w' = ext w y := by
  go_enter Try.func75, Try.ntmps75
  go_wp2
  go_loop [5] (fun i => ∃ k : Nat, i = .int .i64 k ∧ k ≤ xs.length ∧ iof k n (xs.drop k) = iof 0 n xs) (fun i => xs.length - (intOf i).toNat)
  case atStart => exact ⟨0, rfl, by omega, by simp⟩
  case round =>
    obtain ⟨k, rfl, hk, hj⟩ := hrel
    have Hj := Lib.hid hj
    clear hj
    by_cases hlt : k < xs.length
    · obtain ⟨b, o, rfl, hb, hc⟩ := h1.atI hlt
      go_wp2
      · go_ret
        have e := Hj.out
        rw [iof_step hlt, if_pos (by simpa using ‹(xs[k] == n) = true›)] at e
        exact ⟨by rw [← e]; rfl, refl_ext w⟩
      · have e := Hj.out
        rw [iof_step hlt, if_neg (by simpa using ‹(xs[k] == n) = false›)] at e
        exact ⟨⟨k + 1, by go_num, by omega, e⟩, by simp [intOf]; omega⟩
    · go_wp2
      go_ret
      have e := Hj.out
      rw [List.drop_eq_nil_of_le (by omega)] at e
      exact ⟨by rw [← e]; rfl, refl_ext w⟩
end Go.Proofs.Ytgoleefkbjjidaa

/- Ascending lists united by the program; numbers struck from a list. -/
namespace Go.Proofs.Ytgoleefkbjjidaa
open Go.RowKit

theorem copyInts_n {A : Option Addr} {c m : Nat} {xs : List Int} {w : World} (hm : xs.length = m) (hx : m ≤ 1000000000) (hA : A = none → c = 0) (h1 : RI w A xs) :
    Calls Try.prog 68 #[.slice A m c] w fun e w' => ∃ v F, e = .returned v ∧ (∃ y, w' = ext w y) ∧ SV 3 1 sI w' v xs F ∧ ∀ b ∈ F, w.heap.size ≤ b := by
  subst hm
  have hS0 := SV.empty (α := Int) (te := 3) (size := 1) (E := sI) w
  have HA := Lib.hid hA
  clear hA
  go_enter Try.func68, Try.ntmps68
  go_wp2_with (at_builtin; refine wpList_appL (E := sI) (V := vI) (es := xs) rfl _ _ _ rfl tI rfl hS0 rfl HA.out (h1.toExt (by refine Chg.isExt (F := []) ?_ (refl_ext _) (by simp); repeat (with_reducible (first | exact Chg.refl _ _ | exact Nat.le_refl _ | exact Chg.ofExt (by assumption) | refine Chg.trans0 ?_ (by assumption) | refine Chg.extS ?_ _ | refine Chg.alloc ?_ _ | refine Chg.drew ?_ | refine Chg.setCellE ?_ ?_ _ | refine le_addk ?_ _ | refine le_ext ?_ | refine le_alloc ?_ _ | refine le_setC ?_ _ _ | refine le_drew ?_ | assumption | (refine Nat.le_of_lt ?_; omega) | omega)))) vI_s vI_1 (by simp; omega) (by omega) ?_; intro v' w' F' hS hC hF)
  go_ret
  exact ⟨_, F', rfl, hC.isExt (by refine Chg.isExt (F := []) ?_ (refl_ext _) (by simp); repeat (with_reducible (first | exact Chg.refl _ _ | exact Nat.le_refl _ | exact Chg.ofExt (by assumption) | refine Chg.trans0 ?_ (by assumption) | refine Chg.extS ?_ _ | refine Chg.alloc ?_ _ | refine Chg.drew ?_ | refine Chg.setCellE ?_ ?_ _ | refine le_addk ?_ _ | refine le_ext ?_ | refine le_alloc ?_ _ | refine le_setC ?_ _ _ | refine le_drew ?_ | assumption | (refine Nat.le_of_lt ?_; omega) | omega))) (by simp), by simpa using hS, fun b hb => by
    rcases hF b hb with h | h
    · simp at h; omega
    · simp at h; omega⟩
theorem RV.from {α : Type} {size : Nat} {E : VE α} {w : World} {A A' : Option Addr} {ds : List α} (h : RV size E w A ds) {q : Nat} (hA : ∀ b o, A = some ⟨b, o, none⟩ → q < ds.length → A' = some ⟨b, o + q * size, none⟩) : RV size E w A' (ds.drop q) := by
  by_cases hq : q ≤ ds.length
  · have := h.cut (lo := q) (hi := ds.length) hq (Nat.le_refl _) (A' := A') hA
    rwa [List.take_of_length_le (Nat.le_refl _)] at this
  · rw [List.drop_eq_nil_of_le (by omega)]
    exact RV.nil
theorem SV.place {α : Type} {te size : Nat} {E : SE α} {w : World} {A : Option Addr} {n c : Nat} {ds : List α} {F : List Nat} (h : SV te size E w (.slice A n c) ds F) : A = none ∧ c = 0 ∨ ∃ g, A = some ⟨g, 0, none⟩ := by
  obtain ⟨vs, F2, h1, _, _⟩ := h
  rcases h1.2 with ⟨h2, _⟩ | ⟨g, cap, cur, h2, _⟩
  · injection h2 with e1 e2 e3
    exact .inl ⟨e1, e3⟩
  · injection h2 with e1 e2 e3
    exact .inr ⟨g, e1⟩
theorem insS_put {n : Int} {l : List Int} {q : Nat} (hq : insK n l = q) (h : ∀ h : q < l.length, l[q] ≠ n) : insS n l = l.take q ++ [n] ++ l.drop q := by
  unfold insS
  rw [hq, if_neg]
  intro e
  by_cases hl : q < l.length
  · rw [List.drop_eq_getElem_cons hl, List.head?_cons] at e
    injection e with e
    exact h hl e
  · rw [List.drop_eq_nil_of_le (by omega)] at e
    simp at e
theorem insS_hit {n : Int} {l : List Int} {q : Nat} (hq : insK n l = q) (hl : q < l.length) (h : l[q] = n) : insS n l = l := by
  unfold insS
  rw [hq, if_pos]
  rw [List.drop_eq_getElem_cons hl, h]
  rfl
set_option maxRecDepth 100000 in
set_option maxHeartbeats 8000000 in
theorem unite_v {A A' : Option Addr} {c c' : Nat} {xs ys : List Int} {w : World} (hx : xs.length ≤ 100000000) (h1 : RI w A xs) (hy : ys.length ≤ 100000000) (h2 : RI w A' ys) :
    Calls Try.prog 69 #[.slice A xs.length c, .slice A' ys.length c'] w fun e w' => ∃ v F, e = .returned v ∧ (∃ y, w' = ext w y) ∧ SV 3 1 sI w' v (uniL xs ys) F ∧ ∀ b ∈ F, w.heap.size ≤ b := by
  go_enter Try.func69, Try.ntmps69
  go_wp2_with (go_at_call 68; refine (copyInts_v (by omega) h1).mono ?_; rintro e w1 ⟨v1, F1, rfl, hx1, hS1, hF1⟩)
  go_loopw [5, 13] (fun v i wr => ∃ (k : Nat) (F : List Nat), i = .int .i64 k ∧ k ≤ ys.length ∧ SV 3 1 sI wr v (uniL xs (ys.take k)) F ∧ (∀ b ∈ F, w.heap.size ≤ b) ∧ (∃ y, wr = ext w y)) (fun _ i _ => ys.length - (intOf i).toNat)
  case atStart => exact ⟨0, F1, rfl, by omega, by simpa [uniL] using hS1, hF1, hx1⟩
  case round =>
    obtain ⟨k, F, rfl, hk, hS, hF, hw⟩ := hrel
    have HF := Lib.hid hF
    have HF1 := Lib.hid hF1
    clear hF hF1 hS1
    by_cases hlt : k < ys.length
    · obtain ⟨b, o, rfl, hb, hc⟩ := (h2.toExt hw).atI hlt
      have hlen : (uniL xs (ys.take k)).length ≤ 200000000 := by
        have := uniL_length (ys.take k) xs
        simp at this
        omega
      have Hst := Lib.hid (uniL_step (a := xs) hlt)
      obtain ⟨ds, hds⟩ : ∃ ds, uniL xs (ys.take k) = ds := ⟨_, rfl⟩
      obtain ⟨n, hn⟩ : ∃ n, ys[k] = n := ⟨_, rfl⟩
      rw [hds] at hS hlen
      rw [hn] at hc
      have Hds : Hid (uniL xs (ys.take (k + 1)) = insS n ds) := Lib.hid (by rw [Hst.out, hds, hn])
      clear hds hn Hst
      obtain ⟨A1, c1, rfl, hc1, _, hV⟩ := hS.view sI_v
      have Hcap := Lib.hid (fun h : A1 = none => hS.cap0 h)
      have hSlt := Lib.hid hS.lt
      go_wp2
      go_loop [8] (fun j => ∃ q : Nat, j = .int .i64 q ∧ q ≤ ds.length ∧ q + insK n (ds.drop q) = insK n ds) (fun j => ds.length - (intOf j).toNat)
      case atStart => exact ⟨0, rfl, by omega, by simp⟩
      case round =>
        obtain ⟨q, rfl, hq, hj⟩ := hrel
        have Hj := Lib.hid hj
        clear hj
        have HQ := Lib.hid (show (ds.take q).length = q by simp; omega)
        have q0 : (0 : Int) ≤ (q : Int) := by omega
        have q1 : (q : Int) ≤ (ds.length : Int) := by omega
        have q2 : (q : Int) ≤ (c1 : Int) := by omega
        by_cases hql : q < ds.length
        · obtain ⟨b2, o2, rfl, hb2, hc2⟩ := hV.atI hql
          by_cases hlt2 : ds[q] < n
          · have e := Hj.out
            rw [insK_step hql hlt2] at e
            have He := Lib.hid e
            clear e
            go_wp2
            exact ⟨⟨q + 1, by go_num, by omega, He.out⟩, by simp [intOf]; omega⟩
          · have e := Hj.out
            rw [insK_hit hql hlt2] at e
            have He := Lib.hid e.symm
            clear e
            by_cases he : ds[q] = n
            · have hb3 : (ds[q] != n) = false := by simpa using he
              have HI := Lib.hid (insS_hit He.out hql he)
              clear he
              go_wp2
              exact ⟨⟨k + 1, F, by go_num, by omega, by rw [Hds.out, HI.out]; exact hS, HF.out, hw⟩, by simp [intOf]; omega⟩
            · have hb3 : (ds[q] != n) = true := by simpa using he
              have HI := Lib.hid (insS_put He.out fun _ => he)
              have hne : ¬ c1 = q := by omega
              have HD := Lib.hid (show ds.length - q = (ds.drop q).length by simp)
              clear he
              go_wp2
              go_region_held3 (fun _ => True) (trivial)
                (first
                  | (go_at_call 68; refine (copyInts_n HQ.out (by omega) Hcap.out ((hV.pre q).toExt (by refine Chg.isExt (F := []) ?_ (refl_ext _) (by simp); repeat (with_reducible (first | exact Chg.refl _ _ | exact Nat.le_refl _ | exact Chg.ofExt (by assumption) | refine Chg.trans0 ?_ (by assumption) | refine Chg.extS ?_ _ | refine Chg.alloc ?_ _ | refine Chg.drew ?_ | refine Chg.setCellE ?_ ?_ _ | refine le_addk ?_ _ | refine le_ext ?_ | refine le_alloc ?_ _ | refine le_setC ?_ _ _ | refine le_drew ?_ | assumption | (refine Nat.le_of_lt ?_; omega) | omega))))).mono ?_; rintro e w2 ⟨v2, F2, rfl, hx2, hS2, hF2⟩)
                  | (refine step_appL (E := sI) (V := vI) (es := [n]) (by rfl) _ _ _ (by rfl) tI (by rfl) (hS2.toExt (by refine Chg.isExt (F := []) ?_ (refl_ext _) (by simp); repeat (with_reducible (first | exact Chg.refl _ _ | exact Nat.le_refl _ | exact Chg.ofExt (by assumption) | refine Chg.trans0 ?_ (by assumption) | refine Chg.extS ?_ _ | refine Chg.alloc ?_ _ | refine Chg.drew ?_ | refine Chg.setCellE ?_ ?_ _ | refine le_addk ?_ _ | refine le_ext ?_ | refine le_alloc ?_ _ | refine le_setC ?_ _ _ | refine le_drew ?_ | assumption | (refine Nat.le_of_lt ?_; omega) | omega)))) (by rfl) (by rfl) (fun h => by cases h) (RI.one (by repeat (with_reducible (first | assumption | exact BoxAt.new _ _ _ | apply BoxAt.set2 | refine BoxAt.set2' ?_ (by omega) | apply BoxAt.setP0 | apply BoxAt.setP1 | refine BoxAt.setO ?_ (by omega) | refine BoxAt.alloc ?_ _ | refine BoxAt.drew ?_ | refine BoxAt.toExt ?_ (by assumption))))) vI_s vI_1 (by rw [HQ.out]; omega) (by omega) ?_; intro v3 w3 F3 hS3 hC3 hF3)
                  | (refine step_appL (E := sI) (V := vI) (es := ds.drop q) (by rfl) _ _ _ (by rfl) tI (by rfl) hS3 (by rfl) HD.out (fun h => by cases h) (SV.toView ((hS.toExt (by refine Chg.isExt (F := []) ?_ (refl_ext _) (by simp); repeat (with_reducible (first | exact Chg.refl _ _ | exact Nat.le_refl _ | exact Chg.ofExt (by assumption) | refine Chg.trans0 ?_ (by assumption) | refine Chg.extS ?_ _ | refine Chg.alloc ?_ _ | refine Chg.drew ?_ | refine Chg.setCellE ?_ ?_ _ | refine le_addk ?_ _ | refine le_ext ?_ | refine le_alloc ?_ _ | refine le_setC ?_ _ _ | refine le_drew ?_ | assumption | (refine Nat.le_of_lt ?_; omega) | omega)))).chg hC3 (fun b hb hb2 => by have l1 := hSlt.out b hb; have l2 := hF2 b hb2; have l3 := size_of_ext (w0 := wr) (w := wr) (refl_ext _); simp at l2; omega)) sI_v |>.from (fun b o e _ => by injection e with e; injection e with e1 e2; subst e1 e2; simp)) vI_s vI_1 (by simp; omega) (by omega) ?_; intro v4 w4 F4 hS4 hC4 hF4))
              all_goals
                go_wp2
                have n2 : ∀ b ∈ F2, wr.heap.size ≤ b := fun b hb => Nat.le_trans (size_of_ext (by refine Chg.isExt (F := []) ?_ (refl_ext _) (by simp); repeat (with_reducible (first | exact Chg.refl _ _ | exact Nat.le_refl _ | exact Chg.ofExt (by assumption) | refine Chg.trans0 ?_ (by assumption) | refine Chg.extS ?_ _ | refine Chg.alloc ?_ _ | refine Chg.drew ?_ | refine Chg.setCellE ?_ ?_ _ | refine le_addk ?_ _ | refine le_ext ?_ | refine le_alloc ?_ _ | refine le_setC ?_ _ _ | refine le_drew ?_ | assumption | (refine Nat.le_of_lt ?_; omega) | omega)))) (hF2 b hb)
                have n3 : ∀ b ∈ F3, wr.heap.size ≤ b := newer n2 (size_of_ext (by refine Chg.isExt (F := []) ?_ (refl_ext _) (by simp); repeat (with_reducible (first | exact Chg.refl _ _ | exact Nat.le_refl _ | exact Chg.ofExt (by assumption) | refine Chg.trans0 ?_ (by assumption) | refine Chg.extS ?_ _ | refine Chg.alloc ?_ _ | refine Chg.drew ?_ | refine Chg.setCellE ?_ ?_ _ | refine le_addk ?_ _ | refine le_ext ?_ | refine le_alloc ?_ _ | refine le_setC ?_ _ _ | refine le_drew ?_ | assumption | (refine Nat.le_of_lt ?_; omega) | omega)))) hF3
                have hx3 : ∃ y, w3 = ext wr y := hC3.isExt (by refine Chg.isExt (F := []) ?_ (refl_ext _) (by simp); repeat (with_reducible (first | exact Chg.refl _ _ | exact Nat.le_refl _ | exact Chg.ofExt (by assumption) | refine Chg.trans0 ?_ (by assumption) | refine Chg.extS ?_ _ | refine Chg.alloc ?_ _ | refine Chg.drew ?_ | refine Chg.setCellE ?_ ?_ _ | refine le_addk ?_ _ | refine le_ext ?_ | refine le_alloc ?_ _ | refine le_setC ?_ _ _ | refine le_drew ?_ | assumption | (refine Nat.le_of_lt ?_; omega) | omega))) n2
                have hx4 : ∃ y, w4 = ext wr y := hC4.isExt hx3 n3
                have n4 := newer n3 (size_of_ext hx3) hF4
                exact ⟨⟨k + 1, F4, by go_num, by omega, by rw [Hds.out, HI.out]; exact hS4, fun b hb => Nat.le_trans (size_of_ext hw) (n4 b hb), trans_ext hw hx4⟩, by simp [intOf]; omega⟩
        · obtain rfl : q = ds.length := by omega
          have e := Hj.out
          rw [insK_end hql] at e
          have He := Lib.hid e.symm
          have HI := Lib.hid (insS_put He.out fun h => absurd h hql)
          have HD := Lib.hid (show 0 = (ds.drop ds.length).length by simp)
          clear e
          by_cases hcq : c1 = ds.length
          · subst hcq
            go_wp2
            go_region_held3 (fun _ => True) (trivial)
              (first
                | (go_at_call 68; refine (copyInts_n HQ.out (by omega) Hcap.out ((hV.pre ds.length).toExt (by refine Chg.isExt (F := []) ?_ (refl_ext _) (by simp); repeat (with_reducible (first | exact Chg.refl _ _ | exact Nat.le_refl _ | exact Chg.ofExt (by assumption) | refine Chg.trans0 ?_ (by assumption) | refine Chg.extS ?_ _ | refine Chg.alloc ?_ _ | refine Chg.drew ?_ | refine Chg.setCellE ?_ ?_ _ | refine le_addk ?_ _ | refine le_ext ?_ | refine le_alloc ?_ _ | refine le_setC ?_ _ _ | refine le_drew ?_ | assumption | (refine Nat.le_of_lt ?_; omega) | omega))))).mono ?_; rintro e w2 ⟨v2, F2, rfl, hx2, hS2, hF2⟩)
                | (refine step_appL (E := sI) (V := vI) (es := [n]) (by rfl) _ _ _ (by rfl) tI (by rfl) (hS2.toExt (by refine Chg.isExt (F := []) ?_ (refl_ext _) (by simp); repeat (with_reducible (first | exact Chg.refl _ _ | exact Nat.le_refl _ | exact Chg.ofExt (by assumption) | refine Chg.trans0 ?_ (by assumption) | refine Chg.extS ?_ _ | refine Chg.alloc ?_ _ | refine Chg.drew ?_ | refine Chg.setCellE ?_ ?_ _ | refine le_addk ?_ _ | refine le_ext ?_ | refine le_alloc ?_ _ | refine le_setC ?_ _ _ | refine le_drew ?_ | assumption | (refine Nat.le_of_lt ?_; omega) | omega)))) (by rfl) (by rfl) (fun h => by cases h) (RI.one (by repeat (with_reducible (first | assumption | exact BoxAt.new _ _ _ | apply BoxAt.set2 | refine BoxAt.set2' ?_ (by omega) | apply BoxAt.setP0 | apply BoxAt.setP1 | refine BoxAt.setO ?_ (by omega) | refine BoxAt.alloc ?_ _ | refine BoxAt.drew ?_ | refine BoxAt.toExt ?_ (by assumption))))) vI_s vI_1 (by rw [HQ.out]; omega) (by omega) ?_; intro v3 w3 F3 hS3 hC3 hF3)
                | (refine step_appL (E := sI) (V := vI) (es := ds.drop ds.length) (by rfl) _ _ _ (by rfl) tI (by rfl) hS3 (by rfl) HD.out (fun h => by have := Hcap.out h; omega) (SV.toView ((hS.toExt (by refine Chg.isExt (F := []) ?_ (refl_ext _) (by simp); repeat (with_reducible (first | exact Chg.refl _ _ | exact Nat.le_refl _ | exact Chg.ofExt (by assumption) | refine Chg.trans0 ?_ (by assumption) | refine Chg.extS ?_ _ | refine Chg.alloc ?_ _ | refine Chg.drew ?_ | refine Chg.setCellE ?_ ?_ _ | refine le_addk ?_ _ | refine le_ext ?_ | refine le_alloc ?_ _ | refine le_setC ?_ _ _ | refine le_drew ?_ | assumption | (refine Nat.le_of_lt ?_; omega) | omega)))).chg hC3 (fun b hb hb2 => by have l1 := hSlt.out b hb; have l2 := hF2 b hb2; have l3 := size_of_ext (w0 := wr) (w := wr) (refl_ext _); simp at l2; omega)) sI_v |>.from (fun b o e h => absurd h (by omega))) vI_s vI_1 (by simp; omega) (by omega) ?_; intro v4 w4 F4 hS4 hC4 hF4))
            all_goals
              go_wp2
              have n2 : ∀ b ∈ F2, wr.heap.size ≤ b := fun b hb => Nat.le_trans (size_of_ext (by refine Chg.isExt (F := []) ?_ (refl_ext _) (by simp); repeat (with_reducible (first | exact Chg.refl _ _ | exact Nat.le_refl _ | exact Chg.ofExt (by assumption) | refine Chg.trans0 ?_ (by assumption) | refine Chg.extS ?_ _ | refine Chg.alloc ?_ _ | refine Chg.drew ?_ | refine Chg.setCellE ?_ ?_ _ | refine le_addk ?_ _ | refine le_ext ?_ | refine le_alloc ?_ _ | refine le_setC ?_ _ _ | refine le_drew ?_ | assumption | (refine Nat.le_of_lt ?_; omega) | omega)))) (hF2 b hb)
              have n3 : ∀ b ∈ F3, wr.heap.size ≤ b := newer n2 (size_of_ext (by refine Chg.isExt (F := []) ?_ (refl_ext _) (by simp); repeat (with_reducible (first | exact Chg.refl _ _ | exact Nat.le_refl _ | exact Chg.ofExt (by assumption) | refine Chg.trans0 ?_ (by assumption) | refine Chg.extS ?_ _ | refine Chg.alloc ?_ _ | refine Chg.drew ?_ | refine Chg.setCellE ?_ ?_ _ | refine le_addk ?_ _ | refine le_ext ?_ | refine le_alloc ?_ _ | refine le_setC ?_ _ _ | refine le_drew ?_ | assumption | (refine Nat.le_of_lt ?_; omega) | omega)))) hF3
              have hx3 : ∃ y, w3 = ext wr y := hC3.isExt (by refine Chg.isExt (F := []) ?_ (refl_ext _) (by simp); repeat (with_reducible (first | exact Chg.refl _ _ | exact Nat.le_refl _ | exact Chg.ofExt (by assumption) | refine Chg.trans0 ?_ (by assumption) | refine Chg.extS ?_ _ | refine Chg.alloc ?_ _ | refine Chg.drew ?_ | refine Chg.setCellE ?_ ?_ _ | refine le_addk ?_ _ | refine le_ext ?_ | refine le_alloc ?_ _ | refine le_setC ?_ _ _ | refine le_drew ?_ | assumption | (refine Nat.le_of_lt ?_; omega) | omega))) n2
              have hx4 : ∃ y, w4 = ext wr y := hC4.isExt hx3 n3
              have n4 := newer n3 (size_of_ext hx3) hF4
              exact ⟨⟨k + 1, F4, by go_num, by omega, by rw [Hds.out, HI.out]; exact hS4, fun b hb => Nat.le_trans (size_of_ext hw) (n4 b hb), trans_ext hw hx4⟩, by simp [intOf]; omega⟩
          · obtain ⟨g, rfl⟩ : ∃ g, A1 = some ⟨g, 0, none⟩ := by
              rcases hS.place with ⟨_, h⟩ | h
              · omega
              · exact h
            have hc3 : ¬ c1 - ds.length = 0 := by omega
            go_wp2
            go_region_held3 (fun _ => True) (trivial)
              (first
                | (go_at_call 68; refine (copyInts_n HQ.out (by omega) Hcap.out ((hV.pre ds.length).toExt (by refine Chg.isExt (F := []) ?_ (refl_ext _) (by simp); repeat (with_reducible (first | exact Chg.refl _ _ | exact Nat.le_refl _ | exact Chg.ofExt (by assumption) | refine Chg.trans0 ?_ (by assumption) | refine Chg.extS ?_ _ | refine Chg.alloc ?_ _ | refine Chg.drew ?_ | refine Chg.setCellE ?_ ?_ _ | refine le_addk ?_ _ | refine le_ext ?_ | refine le_alloc ?_ _ | refine le_setC ?_ _ _ | refine le_drew ?_ | assumption | (refine Nat.le_of_lt ?_; omega) | omega))))).mono ?_; rintro e w2 ⟨v2, F2, rfl, hx2, hS2, hF2⟩)
                | (refine step_appL (E := sI) (V := vI) (es := [n]) (by rfl) _ _ _ (by rfl) tI (by rfl) (hS2.toExt (by refine Chg.isExt (F := []) ?_ (refl_ext _) (by simp); repeat (with_reducible (first | exact Chg.refl _ _ | exact Nat.le_refl _ | exact Chg.ofExt (by assumption) | refine Chg.trans0 ?_ (by assumption) | refine Chg.extS ?_ _ | refine Chg.alloc ?_ _ | refine Chg.drew ?_ | refine Chg.setCellE ?_ ?_ _ | refine le_addk ?_ _ | refine le_ext ?_ | refine le_alloc ?_ _ | refine le_setC ?_ _ _ | refine le_drew ?_ | assumption | (refine Nat.le_of_lt ?_; omega) | omega)))) (by rfl) (by rfl) (fun h => by cases h) (RI.one (by repeat (with_reducible (first | assumption | exact BoxAt.new _ _ _ | apply BoxAt.set2 | refine BoxAt.set2' ?_ (by omega) | apply BoxAt.setP0 | apply BoxAt.setP1 | refine BoxAt.setO ?_ (by omega) | refine BoxAt.alloc ?_ _ | refine BoxAt.drew ?_ | refine BoxAt.toExt ?_ (by assumption))))) vI_s vI_1 (by rw [HQ.out]; omega) (by omega) ?_; intro v3 w3 F3 hS3 hC3 hF3)
                | (refine step_appL (E := sI) (V := vI) (es := ds.drop ds.length) (by rfl) _ _ _ (by rfl) tI (by rfl) hS3 (by rfl) HD.out (fun h => by cases h) (SV.toView ((hS.toExt (by refine Chg.isExt (F := []) ?_ (refl_ext _) (by simp); repeat (with_reducible (first | exact Chg.refl _ _ | exact Nat.le_refl _ | exact Chg.ofExt (by assumption) | refine Chg.trans0 ?_ (by assumption) | refine Chg.extS ?_ _ | refine Chg.alloc ?_ _ | refine Chg.drew ?_ | refine Chg.setCellE ?_ ?_ _ | refine le_addk ?_ _ | refine le_ext ?_ | refine le_alloc ?_ _ | refine le_setC ?_ _ _ | refine le_drew ?_ | assumption | (refine Nat.le_of_lt ?_; omega) | omega)))).chg hC3 (fun b hb hb2 => by have l1 := hSlt.out b hb; have l2 := hF2 b hb2; have l3 := size_of_ext (w0 := wr) (w := wr) (refl_ext _); simp at l2; omega)) sI_v |>.from (fun b o e h => absurd h (by omega))) vI_s vI_1 (by simp; omega) (by omega) ?_; intro v4 w4 F4 hS4 hC4 hF4))
            all_goals
              go_wp2
              have n2 : ∀ b ∈ F2, wr.heap.size ≤ b := fun b hb => Nat.le_trans (size_of_ext (by refine Chg.isExt (F := []) ?_ (refl_ext _) (by simp); repeat (with_reducible (first | exact Chg.refl _ _ | exact Nat.le_refl _ | exact Chg.ofExt (by assumption) | refine Chg.trans0 ?_ (by assumption) | refine Chg.extS ?_ _ | refine Chg.alloc ?_ _ | refine Chg.drew ?_ | refine Chg.setCellE ?_ ?_ _ | refine le_addk ?_ _ | refine le_ext ?_ | refine le_alloc ?_ _ | refine le_setC ?_ _ _ | refine le_drew ?_ | assumption | (refine Nat.le_of_lt ?_; omega) | omega)))) (hF2 b hb)
              have n3 : ∀ b ∈ F3, wr.heap.size ≤ b := newer n2 (size_of_ext (by refine Chg.isExt (F := []) ?_ (refl_ext _) (by simp); repeat (with_reducible (first | exact Chg.refl _ _ | exact Nat.le_refl _ | exact Chg.ofExt (by assumption) | refine Chg.trans0 ?_ (by assumption) | refine Chg.extS ?_ _ | refine Chg.alloc ?_ _ | refine Chg.drew ?_ | refine Chg.setCellE ?_ ?_ _ | refine le_addk ?_ _ | refine le_ext ?_ | refine le_alloc ?_ _ | refine le_setC ?_ _ _ | refine le_drew ?_ | assumption | (refine Nat.le_of_lt ?_; omega) | omega)))) hF3
              have hx3 : ∃ y, w3 = ext wr y := hC3.isExt (by refine Chg.isExt (F := []) ?_ (refl_ext _) (by simp); repeat (with_reducible (first | exact Chg.refl _ _ | exact Nat.le_refl _ | exact Chg.ofExt (by assumption) | refine Chg.trans0 ?_ (by assumption) | refine Chg.extS ?_ _ | refine Chg.alloc ?_ _ | refine Chg.drew ?_ | refine Chg.setCellE ?_ ?_ _ | refine le_addk ?_ _ | refine le_ext ?_ | refine le_alloc ?_ _ | refine le_setC ?_ _ _ | refine le_drew ?_ | assumption | (refine Nat.le_of_lt ?_; omega) | omega))) n2
              have hx4 : ∃ y, w4 = ext wr y := hC4.isExt hx3 n3
              have n4 := newer n3 (size_of_ext hx3) hF4
              exact ⟨⟨k + 1, F4, by go_num, by omega, by rw [Hds.out, HI.out]; exact hS4, fun b hb => Nat.le_trans (size_of_ext hw) (n4 b hb), trans_ext hw hx4⟩, by simp [intOf]; omega⟩
    · rw [show ys.take k = ys from List.take_of_length_le (by omega)] at hS
      go_wp2
      go_ret
      exact ⟨_, F, rfl, hw, hS, HF.out⟩
theorem unite_any {A A' : Option Addr} {c c' : Nat} {xs ys : List Int} {w : World} (hx : xs.length ≤ 100000000) (_hA : A = none → c = 0) (h1 : RI w A xs) (hy : ys.length ≤ 100000000) (h2 : RI w A' ys) :
    Calls Try.prog 69 #[.slice A xs.length c, .slice A' ys.length c'] w fun e w' => ∃ v F, e = .returned v ∧ (∃ y, w' = ext w y) ∧ SV 3 1 sI w' v (uniL xs ys) F ∧ ∀ b ∈ F, w.heap.size ≤ b := unite_v hx h1 hy h2
end Go.Proofs.Ytgoleefkbjjidaa

/- Rows sorted by the reference, each kept once. -/
namespace Go.Proofs.Ytgoleefkbjjidaa
open Go.RowKit

def slLen : Value → Nat
  | .slice _ n _ => n
  | _ => 0
def SrtP (rows : List (List Int)) (w : World) (e : Ending) (w' : World) : Prop := ∃ (A : Option Addr) (c : Nat), e = .returned (.slice A (sortR rows).length c) ∧ (sortR rows).length ≤ c ∧ RII w' A (sortR rows) ∧ ∃ y, w' = ext w y
/-- the head of rows that are read, and what is behind it -/
theorem RV.headR {w : World} {A : Option Addr} {x : List Int} {xs : List (List Int)} (h : RII w A (x :: xs)) : ∃ b o A1 c1, A = some ⟨b, o, none⟩ ∧ b < w.heap.size ∧ w.cell? ⟨b, o, none⟩ = some (.slice A1 x.length c1) ∧ RI w A1 x ∧ x.length ≤ c1 ∧ RII w (some ⟨b, o + 1, none⟩) xs ∧ (xs = [] → RII w A xs) := by
  obtain ⟨b, o, h1, h2, c, hc, hr, ⟨A1, c1, he, hv⟩⟩ := h.get (k := 0) (by simp)
  subst he h1
  refine ⟨b, o, A1, _, rfl, h2, by simpa using hr 0 (by simp), hv, by simp, ?_, fun e => by subst e; exact RV.nil⟩
  exact h.from (q := 1) (A' := some ⟨b, o + 1, none⟩) (fun b' o' e _ => by injection e with e; injection e with e1 e2; subst e1 e2; simp)
/-- whose head is taken: the right one's if t is positive -/
def TakeP (ls rs : List (List Int)) (t : Int) : Prop := (0 < t → ∃ y rs', rs = y :: rs' ∧ ∀ x ∈ ls, cmpL y x ≤ 0) ∧ (¬ 0 < t → ∃ x ls', ls = x :: ls' ∧ ∀ y ∈ rs, cmpL x y ≤ 0)
theorem take_r {y : List Int} {rs : List (List Int)} : TakeP [] (y :: rs) 1 := ⟨fun _ => ⟨y, rs, rfl, by simp⟩, fun h => absurd (by omega) h⟩
theorem take_l {x : List Int} {ls : List (List Int)} : TakeP (x :: ls) [] (-1) := ⟨fun h => by omega, fun _ => ⟨x, ls, rfl, by simp⟩⟩
theorem take_c {rows out : List (List Int)} {x y : List Int} {ls rs : List (List Int)} (h : MI rows out (x :: ls) (y :: rs)) : TakeP (x :: ls) (y :: rs) (cmpL x y) :=
  ⟨fun h1 => ⟨y, rs, rfl, le_tail h.sa (Int.le_of_lt (cmpL_pos h1))⟩, fun h1 => ⟨x, ls, rfl, le_tail h.sb (by omega)⟩⟩
def StepI (rows out ls rs : List (List Int)) (z : List Int) : Prop := ((∀ u, out.getLast? = some u → cmpL u z ≠ 0) → MI rows (out ++ [z]) ls rs) ∧ (z ∈ out → MI rows out ls rs) ∧ z ∈ rows
theorem stepI_l {rows out ls rs : List (List Int)} {x : List Int} (h : MI rows out (x :: ls) rs) (hb : ∀ y ∈ rs, cmpL x y ≤ 0) : StepI rows out ls rs x := ⟨h.left hb, h.skipL, (h.m x).2 (by simp)⟩
theorem stepI_r {rows out ls rs : List (List Int)} {y : List Int} (h : MI rows out ls (y :: rs)) (hb : ∀ x ∈ ls, cmpL y x ≤ 0) : StepI rows out ls rs y := ⟨h.right hb, h.skipR, (h.m y).2 (by simp)⟩
def CutI (rows out : List (List Int)) (W wr : World) (n : Nat) (a b v : Value) (wc : World) : Prop :=
  ∃ (ls rs : List (List Int)) (Aa Ab Az : Option Addr) (ca cb cz : Nat) (z : List Int), a = .slice Aa ls.length ca ∧ b = .slice Ab rs.length cb ∧ v = .slice Az z.length cz ∧ ls.length ≤ ca ∧ rs.length ≤ cb ∧ z.length ≤ cz ∧ RII W Aa ls ∧ RII W Ab rs ∧ RI W Az z ∧ StepI rows out ls rs z ∧ ls.length + rs.length + 1 = n ∧ ∃ y, wc = ext wr y
set_option maxRecDepth 100000 in
set_option maxHeartbeats 16000000 in
theorem l5Sort_any : ∀ (n : Nat) (A : Option Addr) (c : Nat) (rows : List (List Int)) (w : World) (_ : rows.length ≤ n) (_ : rows.length ≤ 1000000000) (_ : rows.length ≤ c) (_ : ∀ x ∈ rows, x.length ≤ 1000000000) (_ : RII w A rows),
    Calls Try.prog 123 #[.slice A rows.length c] w (SrtP rows w) := by
  intro n
  induction n with
  | zero =>
    intro A c rows w hn hx hc hxl h1
    obtain rfl := List.eq_nil_of_length_eq_zero (Nat.le_zero.1 hn)
    clear hn
    go_enter Try.func123, Try.ntmps123
    go_wp2
    go_ret
    exact ⟨A, c, rfl, by simp [sortR], by rw [sortR_small (by simp)]; exact h1, refl_ext w⟩
  | succ n ih =>
    intro A c rows w hn hx hcap hxl h1
    have IH := Lib.hid ih
    have Hxl := Lib.hid hxl
    clear ih hxl
    by_cases hs : rows.length < 2
    · have HS := Lib.hid (sortR_small hs)
      go_enter Try.func123, Try.ntmps123
      go_wp2
      go_ret
      exact ⟨A, c, by rw [HS.out]; rfl, by rw [HS.out]; omega, by rw [HS.out]; exact h1, refl_ext w⟩
    · obtain ⟨m, hm⟩ : ∃ m, rows.length / 2 = m := ⟨_, rfl⟩
      have HM := Lib.hid (show (rows.length : Int) / 2 = (m : Int) by omega)
      have m1 : m < rows.length := by omega
      have m2 : 0 < m := by omega
      have hne : ¬ c = m := by omega
      have hn2 : rows.length - m ≤ n := by omega
      have hn1 : m ≤ n := by omega
      have q0 : (m : Int) ≤ (c : Int) := by omega
      obtain ⟨b, o, hA⟩ := h1.pl (by omega)
      subst hA
      have HL := Lib.hid (show (rows.take m).length = m by simp; omega)
      have HR := Lib.hid (show (rows.drop m).length = rows.length - m by simp)
      have hv1 := h1.pre m
      have hv2 := h1.from (q := m) (A' := some ⟨b, o + m, none⟩) (fun b' o' e _ => by injection e with e; injection e with e1 e2; subst e1 e2; simp)
      go_enter Try.func123, Try.ntmps123
      go_upto_region 4 with fail
      rw [HM.out]
      go_wp2_with fail
      have I1 := IH.out (some ⟨b, o, none⟩) c (rows.take m) w (by rw [HL.out]; exact hn1) (by rw [HL.out]; omega) (by rw [HL.out]; omega) (fun x hx => Hxl.out x (List.mem_of_mem_take hx)) hv1
      rw [HL.out] at I1
      refine I1.mono ?_
      rintro e w1 ⟨Aa, ca, rfl, hca, hva, hx1⟩
      have I2 := IH.out (some ⟨b, o + m, none⟩) (c - m) (rows.drop m) w1 (by rw [HR.out]; exact hn2) (by rw [HR.out]; omega) (by rw [HR.out]; omega) (fun x hx => Hxl.out x (List.mem_of_mem_drop hx)) (hv2.toExt hx1)
      rw [HR.out] at I2
      clear I1
      go_wp2_with fail
      refine I2.mono ?_
      rintro e W ⟨Ab, cb, rfl, hcb, hvb, hx2⟩
      clear I2
      have hxW := trans_ext hx1 hx2
      have hMI := MI.start (rows := rows) (a := sortR (rows.take m)) (b := sortR (rows.drop m)) (by rw [hm]) (by rw [hm])
      have hla := sortR_length (rows.take m)
      have hlb := sortR_length (rows.drop m)
      rw [HL.out] at hla
      rw [HR.out] at hlb
      have hva := hva.toExt hx2
      obtain ⟨sa, hsa⟩ : ∃ s, sortR (rows.take m) = s := ⟨_, rfl⟩
      obtain ⟨sb, hsb⟩ : ∃ s, sortR (rows.drop m) = s := ⟨_, rfl⟩
      rw [hsa] at hMI hla hca hva ⊢
      rw [hsb] at hMI hlb hcb hvb ⊢
      have HMI := Lib.hid hMI
      have hS0 := SV.empty (te := 22) (size := 1) (E := sOld (vSl 1 vI) W) W
      clear hMI hsa hsb hm hv1 hv2 h1
      go_wp2
      go_loopw [4, 5, 6] (fun a b o wr => ∃ (ls rs out : List (List Int)) (Aa Ab : Option Addr) (ca cb : Nat) (F : List Nat), a = .slice Aa ls.length ca ∧ b = .slice Ab rs.length cb ∧ ls.length ≤ ca ∧ rs.length ≤ cb ∧ RII W Aa ls ∧ RII W Ab rs ∧ SV 22 1 (sOld (vSl 1 vI) W) wr o out F ∧ (∀ b ∈ F, W.heap.size ≤ b) ∧ (∃ y, wr = ext W y) ∧ Hid (MI rows out ls rs) ∧ out.length + ls.length + rs.length ≤ 1000000000) (fun a b _ _ => slLen a + slLen b)
      case atStart => exact ⟨sa, sb, [], Aa, Ab, ca, cb, _, rfl, rfl, hca, hcb, hva, hvb, hS0, by simp, alloc_ext _ _, HMI, by simp; omega⟩
      case round =>
        obtain ⟨ls, rs, out, Aa, Ab, ca, cb, F, rfl, rfl, hca, hcb, hva, hvb, hS, hF, hy, HM, hlen⟩ := hrel
        have HF := Lib.hid hF
        clear hF
        obtain ⟨Ao, co, rfl, hco, _, rv⟩ := hS.view (V := vSl 1 vI) (sOld_v hy)
        have hsw := size_of_ext hy
        match ls, rs with
        | [], [] =>
          have HD := Lib.hid HM.out.done
          go_wp2
          go_ret
          exact ⟨Ao, co, by rw [← HD.out]; rfl, by rw [← HD.out]; exact hco, by rw [← HD.out]; exact rv, trans_ext hxW hy⟩
        | [], y :: rs =>
          obtain ⟨b2, o2, A2, c2, rfl, hb2, hc2, hv2, hl2, hvb', hvn2⟩ := hvb.headR
          have hb2r : b2 < wr.heap.size := by omega
          have hc2r : wr.cell? ⟨b2, o2, none⟩ = some (.slice A2 y.length c2) := by obtain ⟨q, e⟩ := hy; rw [e, cell_ext hb2]; exact hc2
          have hlt2 : rs.length + 1 ≤ cb := hcb
          have HST := Lib.hid (stepI_r HM.out (by simp))
          go_upto_if 50 with fail
          have HTOT := Lib.hid (show ([] : List (List Int)).length + rs.length + 1 = rs.length + 1 by simp)
          go_cut [4, 5, 8] (CutI rows out W wr (rs.length + 1))
          case first =>
            by_cases e1 : cb = 1
            · obtain rfl : rs = [] := List.eq_nil_of_length_eq_zero (by omega)
              subst e1
              have hvq := hvn2 rfl
              clear hvn2
              go_wp2
              go_meet
              exact ⟨[], [], _, _, _, _, _, _, y, rfl, rfl, rfl, hca, by simp, hl2, hva, hvq, hv2, HST.out, HTOT.out, (by refine Chg.isExt (F := []) ?_ (refl_ext _) (by simp); repeat (with_reducible (first | exact Chg.refl _ _ | exact Nat.le_refl _ | exact Chg.ofExt (by assumption) | refine Chg.trans0 ?_ (by assumption) | refine Chg.extS ?_ _ | refine Chg.alloc ?_ _ | refine Chg.drew ?_ | refine Chg.setCellE ?_ ?_ _ | refine le_addk ?_ _ | refine le_ext ?_ | refine le_alloc ?_ _ | refine le_setC ?_ _ _ | refine le_drew ?_ | assumption | (refine Nat.le_of_lt ?_; omega) | omega)))⟩
            · go_wp2
              go_meet
              exact ⟨[], rs, _, _, _, _, _, _, y, rfl, rfl, rfl, hca, by omega, hl2, hva, hvb', hv2, HST.out, HTOT.out, (by refine Chg.isExt (F := []) ?_ (refl_ext _) (by simp); repeat (with_reducible (first | exact Chg.refl _ _ | exact Nat.le_refl _ | exact Chg.ofExt (by assumption) | refine Chg.trans0 ?_ (by assumption) | refine Chg.extS ?_ _ | refine Chg.alloc ?_ _ | refine Chg.drew ?_ | refine Chg.setCellE ?_ ?_ _ | refine le_addk ?_ _ | refine le_ext ?_ | refine le_alloc ?_ _ | refine le_setC ?_ _ _ | refine le_drew ?_ | assumption | (refine Nat.le_of_lt ?_; omega) | omega)))⟩
          obtain ⟨ls', rs', Aa', Ab', Az, ca', cb', cz, z, rfl, rfl, rfl, hca', hcb', hcz, hva2, hvb2, hvz, HSt, hn', hyc⟩ := hcut
          obtain ⟨wd, rfl⟩ : ∃ W, W = wc := ⟨_, rfl⟩
          have hyd := trans_ext hy hyc
          have hSd := hS.toExt hyc
          have lz := Hxl.out z HSt.2.2
          have hlen' : out.length + ls'.length + rs'.length + 1 ≤ 1000000000 := by simp only [List.length_cons, List.length_nil] at hlen hn'; omega
          obtain ⟨kz, rfl⟩ : ∃ k, cz = z.length + k := ⟨cz - z.length, by omega⟩
          have HSt := Lib.hid HSt
          have HN' := Lib.hid hn'
          clear hn'
          by_cases ho : out.length = 0
          · have HSI := Lib.hid (HSt.out.1 (by rw [List.eq_nil_of_length_eq_zero ho]; simp))
            go_wp2_with (at_builtin; refine wpList_app1 (E := sOld (vSl 1 vI) W) (d := z) rfl _ _ _ rfl tIIr rfl rfl rfl (by simp) (fun _ => ⟨⟨Az, kz, rfl, hvz⟩, rfl⟩) rfl (by simp [Value.oneCell']) hSd (by omega) (by omega) ?_; intro v' w' F' hS' hC' hF')
            exact ⟨⟨ls', rs', out ++ [z], Aa', Ab', ca', cb', F', rfl, rfl, hca', hcb', hva2, hvb2, hS', newer HF.out (size_of_ext hyd) hF', hC'.isExt hyd HF.out, Lib.hid HSI.out, by simp; omega⟩, by have := HN'.out; simp [slLen] at this ⊢; omega⟩
          · obtain ⟨us, u, rfl⟩ : ∃ us u, out = us ++ [u] := ⟨out.dropLast, out.getLast (by intro e; subst e; simp at ho), (List.dropLast_concat_getLast _).symm⟩
            have rvd := rv.toExt hyc
            obtain ⟨bo, oo, Au, cu, rfl, hbo, hco2, hvu⟩ := rvd.atV (k := us.length) (by simp)
            rw [show (us ++ [u])[us.length]'(by simp) = u by simp] at hco2 hvu
            have lu := Hxl.out u (by have := (HM.out.m u).2 (.inl (by simp)); exact this)
            have hlu : us.length + 1 ≤ co := by simpa using hco
            rw [show (us ++ [u]).length = us.length + 1 by simp] at hSd
            have hus : us.length + 1 ≤ 1000000000 := by simp at hlen'; omega
            obtain ⟨C, hC⟩ : ∃ C, cmpL u z = C := ⟨_, rfl⟩
            have HC := Lib.hid hC
            by_cases h0 : C = 0
            · subst h0
              have HSI := Lib.hid (HSt.out.2.1 (by rw [cmpL_zero.1 hC]; simp))
              clear hC
              go_wp2_with (go_at_call 74; refine (specCompareRows_any lu hvu lz (hvz.toExt hyd)).mono ?_; rintro e w3 ⟨rfl, hx3⟩; rw [HC.out])
              exact ⟨⟨ls', rs', us ++ [u], Aa', Ab', ca', cb', F, rfl, rfl, hca', hcb', hva2, hvb2, hSd.toExt hx3, HF.out, trans_ext hyd hx3, Lib.hid HSI.out, by omega⟩, by have := HN'.out; simp [slLen] at this ⊢; omega⟩
            · have h9 : (C != 0) = true := by simpa using h0
              have HSI := Lib.hid (HSt.out.1 (by simp only [List.getLast?_append, List.getLast?_singleton]; rintro v ⟨⟩; rw [hC]; exact h0))
              clear hC h0
              go_wp2_with (first
                | (go_at_call 74; refine (specCompareRows_any lu hvu lz (hvz.toExt hyd)).mono ?_; rintro e w3 ⟨rfl, hx3⟩; rw [HC.out])
                | (at_builtin; refine wpList_app1 (E := sOld (vSl 1 vI) W) (d := z) rfl _ _ _ rfl tIIr rfl rfl rfl (by simp) (fun _ => ⟨⟨Az, kz, rfl, hvz⟩, rfl⟩) rfl (by simp [Value.oneCell']) (hSd.toExt hx3) (by omega) (by omega) ?_; intro v' w' F' hS' hC' hF'))
              exact ⟨⟨ls', rs', us ++ [u] ++ [z], Aa', Ab', ca', cb', F', rfl, rfl, hca', hcb', hva2, hvb2, hS', newer HF.out (size_of_ext (trans_ext hyd hx3)) hF', hC'.isExt (trans_ext hyd hx3) HF.out, Lib.hid HSI.out, by simp at hlen' ⊢; omega⟩, by have := HN'.out; simp [slLen] at this ⊢; omega⟩
        | x :: ls, [] =>
          obtain ⟨b1, o1, A1, c1, rfl, hb1, hc1, hv, hl1, hva', hvn⟩ := hva.headR
          have hb1r : b1 < wr.heap.size := by omega
          have hc1r : wr.cell? ⟨b1, o1, none⟩ = some (.slice A1 x.length c1) := by obtain ⟨q, e⟩ := hy; rw [e, cell_ext hb1]; exact hc1
          have hlt1 : ls.length + 1 ≤ ca := hca
          have HST := Lib.hid (stepI_l HM.out (by simp))
          go_upto_if 50 with fail
          have HTOT := Lib.hid (show ls.length + ([] : List (List Int)).length + 1 = ls.length + 1 by simp)
          go_cut [4, 5, 8] (CutI rows out W wr (ls.length + 1))
          case first =>
            by_cases e1 : ca = 1
            · obtain rfl : ls = [] := List.eq_nil_of_length_eq_zero (by omega)
              subst e1
              have hvq := hvn rfl
              clear hvn
              go_wp2
              go_meet
              exact ⟨[], [], _, _, _, _, _, _, x, rfl, rfl, rfl, by simp, hcb, hl1, hvq, hvb, hv, HST.out, HTOT.out, (by refine Chg.isExt (F := []) ?_ (refl_ext _) (by simp); repeat (with_reducible (first | exact Chg.refl _ _ | exact Nat.le_refl _ | exact Chg.ofExt (by assumption) | refine Chg.trans0 ?_ (by assumption) | refine Chg.extS ?_ _ | refine Chg.alloc ?_ _ | refine Chg.drew ?_ | refine Chg.setCellE ?_ ?_ _ | refine le_addk ?_ _ | refine le_ext ?_ | refine le_alloc ?_ _ | refine le_setC ?_ _ _ | refine le_drew ?_ | assumption | (refine Nat.le_of_lt ?_; omega) | omega)))⟩
            · go_wp2
              go_meet
              exact ⟨ls, [], _, _, _, _, _, _, x, rfl, rfl, rfl, by omega, hcb, hl1, hva', hvb, hv, HST.out, HTOT.out, (by refine Chg.isExt (F := []) ?_ (refl_ext _) (by simp); repeat (with_reducible (first | exact Chg.refl _ _ | exact Nat.le_refl _ | exact Chg.ofExt (by assumption) | refine Chg.trans0 ?_ (by assumption) | refine Chg.extS ?_ _ | refine Chg.alloc ?_ _ | refine Chg.drew ?_ | refine Chg.setCellE ?_ ?_ _ | refine le_addk ?_ _ | refine le_ext ?_ | refine le_alloc ?_ _ | refine le_setC ?_ _ _ | refine le_drew ?_ | assumption | (refine Nat.le_of_lt ?_; omega) | omega)))⟩
          obtain ⟨ls', rs', Aa', Ab', Az, ca', cb', cz, z, rfl, rfl, rfl, hca', hcb', hcz, hva2, hvb2, hvz, HSt, hn', hyc⟩ := hcut
          obtain ⟨wd, rfl⟩ : ∃ W, W = wc := ⟨_, rfl⟩
          have hyd := trans_ext hy hyc
          have hSd := hS.toExt hyc
          have lz := Hxl.out z HSt.2.2
          have hlen' : out.length + ls'.length + rs'.length + 1 ≤ 1000000000 := by simp only [List.length_cons, List.length_nil] at hlen hn'; omega
          obtain ⟨kz, rfl⟩ : ∃ k, cz = z.length + k := ⟨cz - z.length, by omega⟩
          have HSt := Lib.hid HSt
          have HN' := Lib.hid hn'
          clear hn'
          by_cases ho : out.length = 0
          · have HSI := Lib.hid (HSt.out.1 (by rw [List.eq_nil_of_length_eq_zero ho]; simp))
            go_wp2_with (at_builtin; refine wpList_app1 (E := sOld (vSl 1 vI) W) (d := z) rfl _ _ _ rfl tIIr rfl rfl rfl (by simp) (fun _ => ⟨⟨Az, kz, rfl, hvz⟩, rfl⟩) rfl (by simp [Value.oneCell']) hSd (by omega) (by omega) ?_; intro v' w' F' hS' hC' hF')
            exact ⟨⟨ls', rs', out ++ [z], Aa', Ab', ca', cb', F', rfl, rfl, hca', hcb', hva2, hvb2, hS', newer HF.out (size_of_ext hyd) hF', hC'.isExt hyd HF.out, Lib.hid HSI.out, by simp; omega⟩, by have := HN'.out; simp [slLen] at this ⊢; omega⟩
          · obtain ⟨us, u, rfl⟩ : ∃ us u, out = us ++ [u] := ⟨out.dropLast, out.getLast (by intro e; subst e; simp at ho), (List.dropLast_concat_getLast _).symm⟩
            have rvd := rv.toExt hyc
            obtain ⟨bo, oo, Au, cu, rfl, hbo, hco2, hvu⟩ := rvd.atV (k := us.length) (by simp)
            rw [show (us ++ [u])[us.length]'(by simp) = u by simp] at hco2 hvu
            have lu := Hxl.out u (by have := (HM.out.m u).2 (.inl (by simp)); exact this)
            have hlu : us.length + 1 ≤ co := by simpa using hco
            rw [show (us ++ [u]).length = us.length + 1 by simp] at hSd
            have hus : us.length + 1 ≤ 1000000000 := by simp at hlen'; omega
            obtain ⟨C, hC⟩ : ∃ C, cmpL u z = C := ⟨_, rfl⟩
            have HC := Lib.hid hC
            by_cases h0 : C = 0
            · subst h0
              have HSI := Lib.hid (HSt.out.2.1 (by rw [cmpL_zero.1 hC]; simp))
              clear hC
              go_wp2_with (go_at_call 74; refine (specCompareRows_any lu hvu lz (hvz.toExt hyd)).mono ?_; rintro e w3 ⟨rfl, hx3⟩; rw [HC.out])
              exact ⟨⟨ls', rs', us ++ [u], Aa', Ab', ca', cb', F, rfl, rfl, hca', hcb', hva2, hvb2, hSd.toExt hx3, HF.out, trans_ext hyd hx3, Lib.hid HSI.out, by omega⟩, by have := HN'.out; simp [slLen] at this ⊢; omega⟩
            · have h9 : (C != 0) = true := by simpa using h0
              have HSI := Lib.hid (HSt.out.1 (by simp only [List.getLast?_append, List.getLast?_singleton]; rintro v ⟨⟩; rw [hC]; exact h0))
              clear hC h0
              go_wp2_with (first
                | (go_at_call 74; refine (specCompareRows_any lu hvu lz (hvz.toExt hyd)).mono ?_; rintro e w3 ⟨rfl, hx3⟩; rw [HC.out])
                | (at_builtin; refine wpList_app1 (E := sOld (vSl 1 vI) W) (d := z) rfl _ _ _ rfl tIIr rfl rfl rfl (by simp) (fun _ => ⟨⟨Az, kz, rfl, hvz⟩, rfl⟩) rfl (by simp [Value.oneCell']) (hSd.toExt hx3) (by omega) (by omega) ?_; intro v' w' F' hS' hC' hF'))
              exact ⟨⟨ls', rs', us ++ [u] ++ [z], Aa', Ab', ca', cb', F', rfl, rfl, hca', hcb', hva2, hvb2, hS', newer HF.out (size_of_ext (trans_ext hyd hx3)) hF', hC'.isExt (trans_ext hyd hx3) HF.out, Lib.hid HSI.out, by simp at hlen' ⊢; omega⟩, by have := HN'.out; simp [slLen] at this ⊢; omega⟩
        | x :: ls, y :: rs =>
          obtain ⟨b1, o1, A1, c1, rfl, hb1, hc1, hv, hl1, hva', hvn⟩ := hva.headR
          have hb1r : b1 < wr.heap.size := by omega
          have hc1r : wr.cell? ⟨b1, o1, none⟩ = some (.slice A1 x.length c1) := by obtain ⟨q, e⟩ := hy; rw [e, cell_ext hb1]; exact hc1
          have hlt1 : ls.length + 1 ≤ ca := hca
          obtain ⟨b2, o2, A2, c2, rfl, hb2, hc2, hv2, hl2, hvb', hvn2⟩ := hvb.headR
          have hb2r : b2 < wr.heap.size := by omega
          have hc2r : wr.cell? ⟨b2, o2, none⟩ = some (.slice A2 y.length c2) := by obtain ⟨q, e⟩ := hy; rw [e, cell_ext hb2]; exact hc2
          have hlt2 : rs.length + 1 ≤ cb := hcb
          have lx := Hxl.out x ((HM.out.m x).2 (by simp))
          have ly := Hxl.out y ((HM.out.m y).2 (by simp))
          have HTOT := Lib.hid (show ls.length + (y :: rs).length + 1 = ls.length + rs.length + 2 by simp; omega)
          have HTOT2 := Lib.hid (show (x :: ls).length + rs.length + 1 = ls.length + rs.length + 2 by simp; omega)
          obtain ⟨C, hC⟩ : ∃ C, cmpL x y = C := ⟨_, rfl⟩
          have HC := Lib.hid hC
          by_cases h0 : 0 < C
          · have HST := Lib.hid (stepI_r HM.out (le_tail HM.out.sa (Int.le_of_lt (cmpL_pos (by rw [hC]; exact h0)))))
            clear hC
            go_upto_region 13 with fail
            refine wp_region_ext (by kernel_rfl) (by kernel_rfl) ?_
            repeat (go_big_quiet_step ((go_at_call 74; exact quietEj (specCompareRows_any lx (hv.toExt (trans_ext hy (by refine Chg.isExt (F := []) ?_ (refl_ext _) (by simp); repeat (with_reducible (first | exact Chg.refl _ _ | exact Nat.le_refl _ | exact Chg.ofExt (by assumption) | refine Chg.trans0 ?_ (by assumption) | refine Chg.extS ?_ _ | refine Chg.alloc ?_ _ | refine Chg.drew ?_ | refine Chg.setCellE ?_ ?_ _ | refine le_addk ?_ _ | refine le_ext ?_ | refine le_alloc ?_ _ | refine le_setC ?_ _ _ | refine le_drew ?_ | assumption | (refine Nat.le_of_lt ?_; omega) | omega))))) ly (hv2.toExt (trans_ext hy (by refine Chg.isExt (F := []) ?_ (refl_ext _) (by simp); repeat (with_reducible (first | exact Chg.refl _ _ | exact Nat.le_refl _ | exact Chg.ofExt (by assumption) | refine Chg.trans0 ?_ (by assumption) | refine Chg.extS ?_ _ | refine Chg.alloc ?_ _ | refine Chg.drew ?_ | refine Chg.setCellE ?_ ?_ _ | refine le_addk ?_ _ | refine le_ext ?_ | refine le_alloc ?_ _ | refine le_setC ?_ _ _ | refine le_drew ?_ | assumption | (refine Nat.le_of_lt ?_; omega) | omega)))))) HC.out)))
            refine wpQuiet_nil ?_
            rintro _ ⟨zz, rfl⟩
            go_upto_if 50 with fail
            go_cut [4, 5, 8] (CutI rows out W wr (ls.length + rs.length + 2))
            case first =>
              by_cases e1 : cb = 1
              · obtain rfl : rs = [] := List.eq_nil_of_length_eq_zero (by omega)
                subst e1
                have hvq := hvn2 rfl
                clear hvn2
                go_wp2
                go_meet
                exact ⟨(x :: ls), [], _, _, _, _, _, _, y, rfl, rfl, rfl, hca, by simp, hl2, hva, hvq, hv2, HST.out, HTOT2.out, (by refine Chg.isExt (F := []) ?_ (refl_ext _) (by simp); repeat (with_reducible (first | exact Chg.refl _ _ | exact Nat.le_refl _ | exact Chg.ofExt (by assumption) | refine Chg.trans0 ?_ (by assumption) | refine Chg.extS ?_ _ | refine Chg.alloc ?_ _ | refine Chg.drew ?_ | refine Chg.setCellE ?_ ?_ _ | refine le_addk ?_ _ | refine le_ext ?_ | refine le_alloc ?_ _ | refine le_setC ?_ _ _ | refine le_drew ?_ | assumption | (refine Nat.le_of_lt ?_; omega) | omega)))⟩
              · go_wp2
                go_meet
                exact ⟨(x :: ls), rs, _, _, _, _, _, _, y, rfl, rfl, rfl, hca, by omega, hl2, hva, hvb', hv2, HST.out, HTOT2.out, (by refine Chg.isExt (F := []) ?_ (refl_ext _) (by simp); repeat (with_reducible (first | exact Chg.refl _ _ | exact Nat.le_refl _ | exact Chg.ofExt (by assumption) | refine Chg.trans0 ?_ (by assumption) | refine Chg.extS ?_ _ | refine Chg.alloc ?_ _ | refine Chg.drew ?_ | refine Chg.setCellE ?_ ?_ _ | refine le_addk ?_ _ | refine le_ext ?_ | refine le_alloc ?_ _ | refine le_setC ?_ _ _ | refine le_drew ?_ | assumption | (refine Nat.le_of_lt ?_; omega) | omega)))⟩
            obtain ⟨ls', rs', Aa', Ab', Az, ca', cb', cz, z, rfl, rfl, rfl, hca', hcb', hcz, hva2, hvb2, hvz, HSt, hn', hyc⟩ := hcut
            obtain ⟨wd, rfl⟩ : ∃ W, W = wc := ⟨_, rfl⟩
            have hyd := trans_ext hy hyc
            have hSd := hS.toExt hyc
            have lz := Hxl.out z HSt.2.2
            have hlen' : out.length + ls'.length + rs'.length + 1 ≤ 1000000000 := by simp only [List.length_cons, List.length_nil] at hlen hn'; omega
            obtain ⟨kz, rfl⟩ : ∃ k, cz = z.length + k := ⟨cz - z.length, by omega⟩
            have HSt := Lib.hid HSt
            have HN' := Lib.hid hn'
            clear hn'
            by_cases ho : out.length = 0
            · have HSI := Lib.hid (HSt.out.1 (by rw [List.eq_nil_of_length_eq_zero ho]; simp))
              go_wp2_with (at_builtin; refine wpList_app1 (E := sOld (vSl 1 vI) W) (d := z) rfl _ _ _ rfl tIIr rfl rfl rfl (by simp) (fun _ => ⟨⟨Az, kz, rfl, hvz⟩, rfl⟩) rfl (by simp [Value.oneCell']) hSd (by omega) (by omega) ?_; intro v' w' F' hS' hC' hF')
              exact ⟨⟨ls', rs', out ++ [z], Aa', Ab', ca', cb', F', rfl, rfl, hca', hcb', hva2, hvb2, hS', newer HF.out (size_of_ext hyd) hF', hC'.isExt hyd HF.out, Lib.hid HSI.out, by simp; omega⟩, by have := HN'.out; simp [slLen] at this ⊢; omega⟩
            · obtain ⟨us, u, rfl⟩ : ∃ us u, out = us ++ [u] := ⟨out.dropLast, out.getLast (by intro e; subst e; simp at ho), (List.dropLast_concat_getLast _).symm⟩
              have rvd := rv.toExt hyc
              obtain ⟨bo, oo, Au, cu, rfl, hbo, hco2, hvu⟩ := rvd.atV (k := us.length) (by simp)
              rw [show (us ++ [u])[us.length]'(by simp) = u by simp] at hco2 hvu
              have lu := Hxl.out u (by have := (HM.out.m u).2 (.inl (by simp)); exact this)
              have hlu : us.length + 1 ≤ co := by simpa using hco
              rw [show (us ++ [u]).length = us.length + 1 by simp] at hSd
              have hus : us.length + 1 ≤ 1000000000 := by simp at hlen'; omega
              obtain ⟨C, hC⟩ : ∃ C, cmpL u z = C := ⟨_, rfl⟩
              have HC := Lib.hid hC
              by_cases h0 : C = 0
              · subst h0
                have HSI := Lib.hid (HSt.out.2.1 (by rw [cmpL_zero.1 hC]; simp))
                clear hC
                go_wp2_with (go_at_call 74; refine (specCompareRows_any lu hvu lz (hvz.toExt hyd)).mono ?_; rintro e w3 ⟨rfl, hx3⟩; rw [HC.out])
                exact ⟨⟨ls', rs', us ++ [u], Aa', Ab', ca', cb', F, rfl, rfl, hca', hcb', hva2, hvb2, hSd.toExt hx3, HF.out, trans_ext hyd hx3, Lib.hid HSI.out, by omega⟩, by have := HN'.out; simp [slLen] at this ⊢; omega⟩
              · have h9 : (C != 0) = true := by simpa using h0
                have HSI := Lib.hid (HSt.out.1 (by simp only [List.getLast?_append, List.getLast?_singleton]; rintro v ⟨⟩; rw [hC]; exact h0))
                clear hC h0
                go_wp2_with (first
                  | (go_at_call 74; refine (specCompareRows_any lu hvu lz (hvz.toExt hyd)).mono ?_; rintro e w3 ⟨rfl, hx3⟩; rw [HC.out])
                  | (at_builtin; refine wpList_app1 (E := sOld (vSl 1 vI) W) (d := z) rfl _ _ _ rfl tIIr rfl rfl rfl (by simp) (fun _ => ⟨⟨Az, kz, rfl, hvz⟩, rfl⟩) rfl (by simp [Value.oneCell']) (hSd.toExt hx3) (by omega) (by omega) ?_; intro v' w' F' hS' hC' hF'))
                exact ⟨⟨ls', rs', us ++ [u] ++ [z], Aa', Ab', ca', cb', F', rfl, rfl, hca', hcb', hva2, hvb2, hS', newer HF.out (size_of_ext (trans_ext hyd hx3)) hF', hC'.isExt (trans_ext hyd hx3) HF.out, Lib.hid HSI.out, by simp at hlen' ⊢; omega⟩, by have := HN'.out; simp [slLen] at this ⊢; omega⟩
          · have HST := Lib.hid (stepI_l HM.out (le_tail HM.out.sb (by rw [hC]; omega)))
            clear hC
            go_upto_region 13 with fail
            refine wp_region_ext (by kernel_rfl) (by kernel_rfl) ?_
            repeat (go_big_quiet_step ((go_at_call 74; exact quietEj (specCompareRows_any lx (hv.toExt (trans_ext hy (by refine Chg.isExt (F := []) ?_ (refl_ext _) (by simp); repeat (with_reducible (first | exact Chg.refl _ _ | exact Nat.le_refl _ | exact Chg.ofExt (by assumption) | refine Chg.trans0 ?_ (by assumption) | refine Chg.extS ?_ _ | refine Chg.alloc ?_ _ | refine Chg.drew ?_ | refine Chg.setCellE ?_ ?_ _ | refine le_addk ?_ _ | refine le_ext ?_ | refine le_alloc ?_ _ | refine le_setC ?_ _ _ | refine le_drew ?_ | assumption | (refine Nat.le_of_lt ?_; omega) | omega))))) ly (hv2.toExt (trans_ext hy (by refine Chg.isExt (F := []) ?_ (refl_ext _) (by simp); repeat (with_reducible (first | exact Chg.refl _ _ | exact Nat.le_refl _ | exact Chg.ofExt (by assumption) | refine Chg.trans0 ?_ (by assumption) | refine Chg.extS ?_ _ | refine Chg.alloc ?_ _ | refine Chg.drew ?_ | refine Chg.setCellE ?_ ?_ _ | refine le_addk ?_ _ | refine le_ext ?_ | refine le_alloc ?_ _ | refine le_setC ?_ _ _ | refine le_drew ?_ | assumption | (refine Nat.le_of_lt ?_; omega) | omega)))))) HC.out)))
            refine wpQuiet_nil ?_
            rintro _ ⟨zz, rfl⟩
            go_upto_if 50 with fail
            go_cut [4, 5, 8] (CutI rows out W wr (ls.length + rs.length + 2))
            case first =>
              by_cases e1 : ca = 1
              · obtain rfl : ls = [] := List.eq_nil_of_length_eq_zero (by omega)
                subst e1
                have hvq := hvn rfl
                clear hvn
                go_wp2
                go_meet
                exact ⟨[], (y :: rs), _, _, _, _, _, _, x, rfl, rfl, rfl, by simp, hcb, hl1, hvq, hvb, hv, HST.out, HTOT.out, (by refine Chg.isExt (F := []) ?_ (refl_ext _) (by simp); repeat (with_reducible (first | exact Chg.refl _ _ | exact Nat.le_refl _ | exact Chg.ofExt (by assumption) | refine Chg.trans0 ?_ (by assumption) | refine Chg.extS ?_ _ | refine Chg.alloc ?_ _ | refine Chg.drew ?_ | refine Chg.setCellE ?_ ?_ _ | refine le_addk ?_ _ | refine le_ext ?_ | refine le_alloc ?_ _ | refine le_setC ?_ _ _ | refine le_drew ?_ | assumption | (refine Nat.le_of_lt ?_; omega) | omega)))⟩
              · go_wp2
                go_meet
                exact ⟨ls, (y :: rs), _, _, _, _, _, _, x, rfl, rfl, rfl, by omega, hcb, hl1, hva', hvb, hv, HST.out, HTOT.out, (by refine Chg.isExt (F := []) ?_ (refl_ext _) (by simp); repeat (with_reducible (first | exact Chg.refl _ _ | exact Nat.le_refl _ | exact Chg.ofExt (by assumption) | refine Chg.trans0 ?_ (by assumption) | refine Chg.extS ?_ _ | refine Chg.alloc ?_ _ | refine Chg.drew ?_ | refine Chg.setCellE ?_ ?_ _ | refine le_addk ?_ _ | refine le_ext ?_ | refine le_alloc ?_ _ | refine le_setC ?_ _ _ | refine le_drew ?_ | assumption | (refine Nat.le_of_lt ?_; omega) | omega)))⟩
            obtain ⟨ls', rs', Aa', Ab', Az, ca', cb', cz, z, rfl, rfl, rfl, hca', hcb', hcz, hva2, hvb2, hvz, HSt, hn', hyc⟩ := hcut
            obtain ⟨wd, rfl⟩ : ∃ W, W = wc := ⟨_, rfl⟩
            have hyd := trans_ext hy hyc
            have hSd := hS.toExt hyc
            have lz := Hxl.out z HSt.2.2
            have hlen' : out.length + ls'.length + rs'.length + 1 ≤ 1000000000 := by simp only [List.length_cons, List.length_nil] at hlen hn'; omega
            obtain ⟨kz, rfl⟩ : ∃ k, cz = z.length + k := ⟨cz - z.length, by omega⟩
            have HSt := Lib.hid HSt
            have HN' := Lib.hid hn'
            clear hn'
            by_cases ho : out.length = 0
            · have HSI := Lib.hid (HSt.out.1 (by rw [List.eq_nil_of_length_eq_zero ho]; simp))
              go_wp2_with (at_builtin; refine wpList_app1 (E := sOld (vSl 1 vI) W) (d := z) rfl _ _ _ rfl tIIr rfl rfl rfl (by simp) (fun _ => ⟨⟨Az, kz, rfl, hvz⟩, rfl⟩) rfl (by simp [Value.oneCell']) hSd (by omega) (by omega) ?_; intro v' w' F' hS' hC' hF')
              exact ⟨⟨ls', rs', out ++ [z], Aa', Ab', ca', cb', F', rfl, rfl, hca', hcb', hva2, hvb2, hS', newer HF.out (size_of_ext hyd) hF', hC'.isExt hyd HF.out, Lib.hid HSI.out, by simp; omega⟩, by have := HN'.out; simp [slLen] at this ⊢; omega⟩
            · obtain ⟨us, u, rfl⟩ : ∃ us u, out = us ++ [u] := ⟨out.dropLast, out.getLast (by intro e; subst e; simp at ho), (List.dropLast_concat_getLast _).symm⟩
              have rvd := rv.toExt hyc
              obtain ⟨bo, oo, Au, cu, rfl, hbo, hco2, hvu⟩ := rvd.atV (k := us.length) (by simp)
              rw [show (us ++ [u])[us.length]'(by simp) = u by simp] at hco2 hvu
              have lu := Hxl.out u (by have := (HM.out.m u).2 (.inl (by simp)); exact this)
              have hlu : us.length + 1 ≤ co := by simpa using hco
              rw [show (us ++ [u]).length = us.length + 1 by simp] at hSd
              have hus : us.length + 1 ≤ 1000000000 := by simp at hlen'; omega
              obtain ⟨C, hC⟩ : ∃ C, cmpL u z = C := ⟨_, rfl⟩
              have HC := Lib.hid hC
              by_cases h0 : C = 0
              · subst h0
                have HSI := Lib.hid (HSt.out.2.1 (by rw [cmpL_zero.1 hC]; simp))
                clear hC
                go_wp2_with (go_at_call 74; refine (specCompareRows_any lu hvu lz (hvz.toExt hyd)).mono ?_; rintro e w3 ⟨rfl, hx3⟩; rw [HC.out])
                exact ⟨⟨ls', rs', us ++ [u], Aa', Ab', ca', cb', F, rfl, rfl, hca', hcb', hva2, hvb2, hSd.toExt hx3, HF.out, trans_ext hyd hx3, Lib.hid HSI.out, by omega⟩, by have := HN'.out; simp [slLen] at this ⊢; omega⟩
              · have h9 : (C != 0) = true := by simpa using h0
                have HSI := Lib.hid (HSt.out.1 (by simp only [List.getLast?_append, List.getLast?_singleton]; rintro v ⟨⟩; rw [hC]; exact h0))
                clear hC h0
                go_wp2_with (first
                  | (go_at_call 74; refine (specCompareRows_any lu hvu lz (hvz.toExt hyd)).mono ?_; rintro e w3 ⟨rfl, hx3⟩; rw [HC.out])
                  | (at_builtin; refine wpList_app1 (E := sOld (vSl 1 vI) W) (d := z) rfl _ _ _ rfl tIIr rfl rfl rfl (by simp) (fun _ => ⟨⟨Az, kz, rfl, hvz⟩, rfl⟩) rfl (by simp [Value.oneCell']) (hSd.toExt hx3) (by omega) (by omega) ?_; intro v' w' F' hS' hC' hF'))
                exact ⟨⟨ls', rs', us ++ [u] ++ [z], Aa', Ab', ca', cb', F', rfl, rfl, hca', hcb', hva2, hvb2, hS', newer HF.out (size_of_ext (trans_ext hyd hx3)) hF', hC'.isExt (trans_ext hyd hx3) HF.out, Lib.hid HSI.out, by simp at hlen' ⊢; omega⟩, by have := HN'.out; simp [slLen] at this ⊢; omega⟩
end Go.Proofs.Ytgoleefkbjjidaa
