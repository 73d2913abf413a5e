/- Rows of bytes, and an append of any slice that is only read onto a row that is owned. No program in it. -/
import Derived.Test.YtgehnacmgofobaaDoorOwn
import Derived.Laws.BytesArg
import Derived.Laws.AppendOwnNone
namespace Go.Proofs.YtgehnacmgofobaaDoor
open Go.RowKit

def vU : VE UInt8 := fun _ c b => c = [.int .u8 b.toNat]
def sU : SE UInt8 := fun _ c b F => c = [.int .u8 b.toNat] ∧ F = []
instance : VMono vU := ⟨fun h => h⟩
instance : SMono sU := ⟨fun h b hb => by rw [h.2] at hb; simp at hb, fun h _ => h⟩
instance : SPlain sU := ⟨fun h => h.2⟩
theorem sU_v {w : World} (c : List Value) (d : UInt8) (F : List Nat) (h : sU w c d F) : vU w c d := h.1
theorem vU_s {w : World} (c : List Value) (d : UInt8) (h : vU w c d) : sU w c d [] := ⟨h, rfl⟩
theorem vU_1 {w : World} (c : List Value) (d : UInt8) (h : vU w c d) : ∀ u ∈ c, u.oneCell' = true := by
  simp only [vU] at h
  subst h
  simp [Value.oneCell']
abbrev RU := RV 1 vU

theorem addr_add (b o j : Nat) : (⟨b, o, none⟩ : Addr).add j = ⟨b, o + j, none⟩ := by
  unfold Addr.add
  split
  · rename_i h; subst h; rfl
  · rfl
theorem RV.cells {α : Type} {size : Nat} {V : VE α} {E : SE α} {w : World} (hVE : ∀ c d, V w c d → E w c d []) (h1 : ∀ c d, V w c d → ∀ u ∈ c, u.oneCell' = true) {b : Nat} :
    ∀ (es : List α) (o : Nat), (∀ j (h : j < es.length), ∃ c : List Value, c.length = size ∧ (∀ i (hi : i < c.length), w.cell? ⟨b, o + j * size + i, none⟩ = some c[i]) ∧ V w c es[j]) →
    ∃ cs : List Value, (∀ j u, cs[j]? = some u → w.cell? ((⟨b, o, none⟩ : Addr).add j) = some u) ∧ elems size E w cs es [] ∧ ∀ u ∈ cs, u.oneCell' = true
  | [], _, _ => ⟨[], by simp, ⟨rfl, rfl⟩, by simp⟩
  | e :: es, o, h => by
    obtain ⟨c, hc, hr, he⟩ := h 0 (by simp)
    obtain ⟨cs, k1, k2, k3⟩ := RV.cells hVE h1 es (o + size) (fun j hj => by
      obtain ⟨c, hc, hr, he⟩ := h (j + 1) (by simpa using hj)
      refine ⟨c, hc, fun i hi => ?_, by simpa using he⟩
      rw [← hr i hi]
      congr 2
      rw [Nat.add_mul]; omega)
    refine ⟨c ++ cs, fun j u hj => ?_, ⟨c, cs, [], [], rfl, hc, hVE _ _ he, k2, rfl⟩, fun u hu => ?_⟩
    · by_cases hlt : j < c.length
      · rw [List.getElem?_append_left hlt, List.getElem?_eq_getElem hlt] at hj
        injection hj with hj
        have := hr j hlt
        simp at this
        rw [← hj, ← this, addr_add]
      · rw [List.getElem?_append_right (by omega)] at hj
        have := k1 _ u hj
        rw [← this, addr_add, addr_add]
        congr 2
        omega
    · rcases List.mem_append.1 hu with h | h
      · exact h1 _ _ he u h
      · exact k3 u h

section
variable {P : Program} {w : World}
/-- 'append(out, xs...)' -/
theorem wpList_appL {ops : Array Oper} {rest : List Oper} {o : Oper} {a : Act} {Q : Exit → Act → World → Prop} (hgd : o.guard = none) (s x : Operand) (t : TypeId)
    (ho : o.op = .call { callee := .builtin .append, args := #[s, x], argTypes := #[t, t] })
    {α : Type} {E : SE α} [SMono E] [SPlain E] {V : VE α} {te size bytes : Nat} {z : Value} (hT : SlT P t te size bytes z) {v : Value} {ds es : List α} {F : List Nat} (hs : a.eval s = v) (hS : SV te size E w v ds F)
    {A : Option Addr} {c : Nat} (hx : a.eval x = .slice A es.length c) (hc : A = none → c = 0) (hV : RV size V w A es) (hVE : ∀ c d, V w c d → E w c d []) (h1 : ∀ c d, V w c d → ∀ u ∈ c, u.oneCell' = true)
    (hlen : ds.length + es.length ≤ 2000000000) (hby : bytes ≤ 60000)
    (h : ∀ v' w' F', SV te size E w' v' (ds ++ es) F' → Chg F w w' → (∀ b ∈ F', b ∈ F ∨ w.heap.size ≤ b) → wpList P ops Q rest (a.put o.dst v') w') : wpList P ops Q (o :: rest) a w := by
  cases A with
  | none =>
    have e0 : es = [] := Classical.byContradiction fun hn => by
      obtain ⟨b, o, h, _⟩ := hV hn
      cases h
    subst e0
    obtain ⟨ht, hi, _, _⟩ := hT
    obtain ⟨i, hi, _, _, _⟩ := info_parts hi
    rw [hc rfl] at hx
    have hS' := hS
    obtain ⟨vs, F2, ho', _, _⟩ := hS'
    exact wpList_append_own_none hgd s x t ho 0 te i size ht hi v ds.length vs hs ho' hx (h v w F (by simpa using hS) (Chg.refl F w) fun b hb => .inl hb)
  | some ad =>
    have hN := hS.nodup
    have key : ∃ cs : List Value, (∀ j u, cs[j]? = some u → w.cell? (ad.add j) = some u) ∧ elems size E w cs es [] ∧ ∀ u ∈ cs, u.oneCell' = true := by
      by_cases hn : es = []
      · subst hn
        exact ⟨[], by simp, ⟨rfl, rfl⟩, by simp⟩
      · obtain ⟨b, o, e, _, h3⟩ := hV hn
        injection e with e
        subst e
        exact RV.cells hVE h1 es o h3
    obtain ⟨cs, k1, k2, k3⟩ := key
    refine wpList_appS _ hgd s x t ho hT hs hS hN hx k1 k3 rfl k2 (by simpa using hN) hlen hby ?_
    intro v' w' F' h2 h3 _ h5
    exact h v' w' F' h2 h3 fun b hb => by
      rcases h5 b hb with h | h | h
      · exact .inl h
      · simp at h
      · exact .inr h
/-- a row of one element, just made -/
theorem SV.fresh1 {α : Type} {te : Nat} {E : SE α} {u : Value} {d : α} (w : World) (h : E (w.alloc (.cells #[u] te)) [u] d []) : SV te 1 E (w.alloc (.cells #[u] te)) (.slice (some ⟨w.heap.size, 0, none⟩) 1 1) [d] [w.heap.size] :=
  ⟨[u], [], ⟨by simp, .inr ⟨w.heap.size, 1, #[u], rfl, Nat.zero_le _, heap_alloc_new w _, Nat.le_refl _, by simp [maxLen], by simp, by simp⟩⟩, elems_one rfl h, rfl⟩
theorem SV.cap0 {α : Type} {te size : Nat} {E : SE α} {ds : List α} {F : List Nat} {A : Option Addr} {n c : Nat} (h : SV te size E w (.slice A n c) ds F) (hA : A = none) : c = 0 := by
  obtain ⟨vs, F2, h1, _, _⟩ := h
  rcases h1.2 with ⟨h2, _⟩ | ⟨g, cap, cur, h2, _⟩
  · injection h2
  · injection h2 with h2
    rw [hA] at h2; cases h2
/-- the text of a row of bytes -/
theorem strOfNums_map (ds : List UInt8) : strOfNums (ds.map fun b => (b.toNat : Int)) = ⟨ds.toArray⟩ := by
  unfold strOfNums
  congr 1
  apply Array.ext'
  simp only [List.map_map]
  conv => rhs; rw [← List.map_id ds]
  congr 1
  funext b
  simp
theorem convV {src e dst : TypeId} (hs : P.underlying src = some (.slice e)) (he : P.underlying e = some (.int .u8)) (hd : P.underlying dst = some .string) {A : Option Addr} {ds : List UInt8} {n c : Nat} (hn : ds.length = n) (h : RU w A ds) :
    (convert src dst (.slice A n c)).run P w = .ok (.string ⟨ds.toArray⟩) w := by
  subst hn
  by_cases hn : ds = []
  · subst hn
    cases A with
    | none => exact run_convert_bytes_nil w src e hs he 0 c dst hd
    | some ad =>
      obtain ⟨b, o, s⟩ := ad
      rw [run_convert_bytes_string w src dst e _ _ _ hs he hd]
      simp [Conv.bytesToString, loadCells, Sem.run_bind]
      rfl
  · obtain ⟨b, o, rfl, _, h3⟩ := h hn
    rw [← strOfNums_map]
    refine run_convert_bytes_arg w src e hs he b o ds.length c _ (by simp) (fun i hi => ?_) dst hd
    obtain ⟨c, hc, hr, he⟩ := h3 i hi
    simp only [vU] at he
    subst he
    have := hr 0 (by simp)
    simp at this
    rw [this]
    simp [List.getD_eq_getElem?_getD, hi]
end
end Go.Proofs.YtgehnacmgofobaaDoor
