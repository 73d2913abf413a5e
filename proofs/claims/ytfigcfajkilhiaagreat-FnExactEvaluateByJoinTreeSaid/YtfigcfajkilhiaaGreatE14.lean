/- Contracts of functions that the statement reaches. -/
import Derived.Test.YtfigcfajkilhiaaGreatE01
namespace Go.Proofs.YtfigcfajkilhiaaGreat
open Go.RowKit
section
variable {P : Program} {w : World}
theorem wp_appB {o : Oper} {a : Act} {K : Act → World → Prop} {Q : Exit → Act → World → Prop} (s x : Operand) (t : TypeId)
    (ho : o.op = .call { callee := .builtin .append, args := #[s, x], argTypes := #[t, t] })
    {α : Type} {E : SE α} [SMono E] {te size bytes : Nat} {z : Value} (hT : SlT P t te size bytes z) {v : Value} {ds : List α} {F G : List Nat} {cs : Array Value} {d : α} {c b0 : Nat} (hs : a.eval s = v) (hx : a.eval x = .slice (some ⟨b0, 0, none⟩) 1 c) (hB : BoxAt w b0 cs)
    (hE : E w cs.toList d G) (hc : cs.size = size) (h1 : ∀ u ∈ cs.toList, u.oneCell' = true)
    (hS : SV te size E w v ds F) (hN : (F ++ G).Nodup) (hlen : ds.length + 1 ≤ 2000000000) (hby : bytes ≤ 60000)
    (h : ∀ v' w' F', SV te size E w' v' (ds ++ [d]) F' → Chg F w w' → F'.Nodup → (∀ b ∈ F', b ∈ F ∨ b ∈ G ∨ w.heap.size ≤ b) → K (a.put o.dst v') w') : o.wp P a w K Q := by
  refine wp_appS _ s x t ho hT hs hS (List.nodup_append.1 hN).1 hx (cs := cs.toList) (es := [d]) (G := G) (fun j u hj => ?_) h1 rfl (elems_one (by simpa using hc) hE) hN hlen hby h
  have e : (⟨b0, 0, none⟩ : Addr).add j = ⟨b0, j, none⟩ := by
    unfold Addr.add
    split
    · rename_i h; subst h; rfl
    · simp
  rw [e, hB.2.1 j]
  simpa using hj
theorem step_appB {ops : Array Oper} {o : Oper} {a : Act} {K : Act → World → Prop} {Q : Exit → Act → World → Prop} {X : Prop} (hgd : o.guard = none) (s x : Operand) (t : TypeId)
    (ho : o.op = .call { callee := .builtin .append, args := #[s, x], argTypes := #[t, t] })
    {α : Type} {E : SE α} [SMono E] {te size bytes : Nat} {z : Value} (hT : SlT P t te size bytes z) {v : Value} {ds : List α} {F G : List Nat} {cs : Array Value} {d : α} {c b0 : Nat} (hs : a.eval s = v) (hx : a.eval x = .slice (some ⟨b0, 0, none⟩) 1 c) (hB : BoxAt w b0 cs)
    (hE : E w cs.toList d G) (hc : cs.size = size) (h1 : ∀ u ∈ cs.toList, u.oneCell' = true)
    (hS : SV te size E w v ds F) (hN : (F ++ G).Nodup) (hlen : ds.length + 1 ≤ 2000000000) (hby : bytes ≤ 60000)
    (h : ∀ v' w' F', SV te size E w' v' (ds ++ [d]) F' → Chg F w w' → F'.Nodup → (∀ b ∈ F', b ∈ F ∨ b ∈ G ∨ w.heap.size ≤ b) → K (a.put o.dst v') w') :
    if Region.wanted o (yielded ops a.tmps) = true then Oper.wp P o a w K Q else X := by
  have hwt : Region.wanted o (yielded ops a.tmps) = true := by simp [Region.wanted, hgd]
  rw [if_pos hwt]
  exact wp_appB s x t ho hT hs hx hB hE hc h1 hS hN hlen hby h
end
end Go.Proofs.YtfigcfajkilhiaaGreat
