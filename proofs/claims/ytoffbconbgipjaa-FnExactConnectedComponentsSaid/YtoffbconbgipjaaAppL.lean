/- Appending any slice that is only read onto a row that is owned, at a step of a region that draws its order. No program in it. -/
import Derived.Test.YtoffbconbgipjaaApp
import Derived.Test.YtoffbconbgipjaaBytes
namespace Go.Proofs.Ytoffbconbgipjaa
open Go.RowKit
section
variable {P : Program} {w : World}
theorem wp_appL {o : Oper} {a : Act} {K : Act → World → Prop} {Q : Exit → Act → World → Prop} (s x : Operand) (t : TypeId)
    (ho : o.op = .call { callee := .builtin .append, args := #[s, x], argTypes := #[t, t] })
    {α : Type} {E : SE α} [SMono E] [SPlain E] {V : VE α} {te size bytes : Nat} {z : Value} (hT : SlT P t te size bytes z) {v : Value} {ds es : List α} {F : List Nat} (hs : a.eval s = v) (hS : SV te size E w v ds F)
    {A : Option Addr} {c m : Nat} (hx : a.eval x = .slice A m c) (hm : m = es.length) (hc : A = none → c = 0) (hV : RV size V w A es) (hVE : ∀ c d, V w c d → E w c d []) (h1 : ∀ c d, V w c d → ∀ u ∈ c, u.oneCell' = true)
    (hlen : ds.length + m ≤ 2000000000) (hby : bytes ≤ 60000)
    (h : ∀ v' w' F', SV te size E w' v' (ds ++ es) F' → Chg F w w' → (∀ b ∈ F', b ∈ F ∨ w.heap.size ≤ b) → K (a.put o.dst v') w') : o.wp P a w K Q := by
  subst hm
  cases A with
  | none =>
    have e0 : es = [] := Classical.byContradiction fun hn => by
      obtain ⟨b, o, h, _⟩ := hV hn
      cases h
    subst e0
    obtain ⟨ht, hi, _, _⟩ := hT
    obtain ⟨i, hi, _, _, _⟩ := info_parts hi
    rw [hc rfl] at hx
    have hS' := hS
    obtain ⟨vs, F2, ho', _, _⟩ := hS'
    have hrun := run_append_owned_none (P := P) (w := w) 0 t o.type te i size ht hi v ds.length vs ho'
    unfold Oper.wp execOp
    simp only [ho, resolve, invoke, builtin, Sem.run_bind, Sem.run_pure, Result.andThen_ok, List.map_toArray, List.map_cons, List.map_nil, hs, hx, List.length_nil, hrun]
    exact h v w F (by simpa using hS) (Chg.refl F w) fun b hb => .inl hb
  | some ad =>
    have hN := hS.nodup
    have key : ∃ cs : List Value, (∀ j u, cs[j]? = some u → w.cell? (ad.add j) = some u) ∧ elems size E w cs es [] ∧ ∀ u ∈ cs, u.oneCell' = true := by
      by_cases hn : es = []
      · subst hn
        exact ⟨[], by simp, ⟨rfl, rfl⟩, by simp⟩
      · obtain ⟨b, o, e, _, h3⟩ := hV hn
        injection e with e
        subst e
        exact RV.cells hVE h1 es o h3
    obtain ⟨cs, k1, k2, k3⟩ := key
    refine wp_appS _ s x t ho hT hs hS hN hx k1 k3 rfl k2 (by simpa using hN) hlen hby ?_
    intro v' w' F' h2 h3 _ h5
    exact h v' w' F' h2 h3 fun b hb => by
      rcases h5 b hb with h | h | h
      · exact .inl h
      · simp at h
      · exact .inr h
theorem step_appL {ops : Array Oper} {o : Oper} {a : Act} {K : Act → World → Prop} {Q : Exit → Act → World → Prop} {X : Prop} (hgd : o.guard = none) (s x : Operand) (t : TypeId)
    (ho : o.op = .call { callee := .builtin .append, args := #[s, x], argTypes := #[t, t] })
    {α : Type} {E : SE α} [SMono E] [SPlain E] {V : VE α} {te size bytes : Nat} {z : Value} (hT : SlT P t te size bytes z) {v : Value} {ds es : List α} {F : List Nat} (hs : a.eval s = v) (hS : SV te size E w v ds F)
    {A : Option Addr} {c m : Nat} (hx : a.eval x = .slice A m c) (hm : m = es.length) (hc : A = none → c = 0) (hV : RV size V w A es) (hVE : ∀ c d, V w c d → E w c d []) (h1 : ∀ c d, V w c d → ∀ u ∈ c, u.oneCell' = true)
    (hlen : ds.length + m ≤ 2000000000) (hby : bytes ≤ 60000)
    (h : ∀ v' w' F', SV te size E w' v' (ds ++ es) F' → Chg F w w' → (∀ b ∈ F', b ∈ F ∨ w.heap.size ≤ b) → K (a.put o.dst v') w') :
    if Region.wanted o (yielded ops a.tmps) = true then Oper.wp P o a w K Q else X := by
  have hwt : Region.wanted o (yielded ops a.tmps) = true := by simp [Region.wanted, hgd]
  rw [if_pos hwt]
  exact wp_appL s x t ho hT hs hS hx hm hc hV hVE h1 hlen hby h
theorem vI_s {w : World} (c : List Value) (d : Int) (h : vI w c d) : sI w c d [] := ⟨h, rfl⟩
theorem vI_1 {w : World} (c : List Value) (d : Int) (h : vI w c d) : ∀ u ∈ c, u.oneCell' = true := by
  simp only [vI] at h
  subst h
  simp [Value.oneCell']
/-- the slice of one number just made reads so -/
theorem RI.one {w : World} {B : Nat} {n : Int} (h : BoxAt w B #[.int .i64 n]) : RI w (some ⟨B, 0, none⟩) [n] := fun _ => ⟨B, 0, rfl, h.1, fun j hj => by
  have : j = 0 := by simpa using hj
  subst this
  refine ⟨[.int .i64 n], rfl, fun i hi => ?_, rfl⟩
  have : i = 0 := by simpa using hi
  subst this
  have := h.2.1 0
  simpa using this⟩
end
end Go.Proofs.Ytoffbconbgipjaa
