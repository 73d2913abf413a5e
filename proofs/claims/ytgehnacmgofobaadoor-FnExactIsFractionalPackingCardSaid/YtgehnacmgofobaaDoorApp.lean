/- Appending one element, plain or with memory of its own, onto a row that is owned. No program in it. -/
import Derived.Test.YtgehnacmgofobaaDoorOwn
namespace Go.Proofs.YtgehnacmgofobaaDoor
open Go.RowKit

section
variable {P : Program} {w : World}
/-- 'out = append(out, x)', x plain: the one-element row lies in a block just made -/
theorem wpList_app1 {ops : Array Oper} {rest : List Oper} {o : Oper} {a : Act} {Q : Exit → Act → World → Prop} (hgd : o.guard = none) (s x : Operand) (t : TypeId)
    (ho : o.op = .call { callee := .builtin .append, args := #[s, x], argTypes := #[t, t] })
    {α : Type} {E : SE α} [SMono E] [SPlain E] {te size bytes : Nat} {z : Value} (hT : SlT P t te size bytes z) {v : Value} {ds : List α} {F : List Nat} {w0 : World} {cs : Array Value} {d : α} {c b0 : Nat} (hs : a.eval s = v) (hx : a.eval x = .slice (some ⟨b0, 0, none⟩) 1 c) (hw : w = w0.alloc (.cells cs te)) (hb0 : b0 = w0.heap.size)
    (hE : ∀ w, E w cs.toList d []) (hc : cs.size = size) (h1 : ∀ u ∈ cs.toList, u.oneCell' = true)
    (hS : SV te size E w0 v ds F) (hlen : ds.length + 1 ≤ 2000000000) (hby : bytes ≤ 60000)
    (h : ∀ v' w' F', SV te size E w' v' (ds ++ [d]) F' → Chg F w0 w' → (∀ b ∈ F', b ∈ F ∨ w0.heap.size ≤ b) → wpList P ops Q rest (a.put o.dst v') w') : wpList P ops Q (o :: rest) a w := by
  subst hw hb0
  have hS' : SV te size E (w0.alloc (.cells cs te)) v ds F := hS.toExt (alloc_ext w0 _)
  have hN := BoxAt.new w0 cs te
  refine wpList_appS _ hgd s x t ho hT hs hS' hS'.nodup hx (cs := cs.toList) (es := [d]) (G := []) (fun j u hj => ?_) h1 rfl (elems_one (by simpa using hc) (hE _)) (by simpa using hS'.nodup) hlen hby ?_
  · have e : (⟨w0.heap.size, 0, none⟩ : Addr).add j = ⟨w0.heap.size, j, none⟩ := by
      unfold Addr.add
      split
      · rename_i h; subst h; rfl
      · simp
    rw [e, hN.2.1 j]
    simpa using hj
  · intro v' w' F' h2 h3 _ h5
    refine h v' w' F' h2 (((Chg.refl F w0).alloc _).trans h3 (fun x hx => .inl hx)) fun b hb => ?_
    rcases h5 b hb with h | h | h
    · exact .inl h
    · simp at h
    · exact .inr (by simp at h; omega)
/-- 'out = append(out, x)', x with memory of its own (footprint G) -/
theorem wpList_appN {ops : Array Oper} {rest : List Oper} {o : Oper} {a : Act} {Q : Exit → Act → World → Prop} (hgd : o.guard = none) (s x : Operand) (t : TypeId)
    (ho : o.op = .call { callee := .builtin .append, args := #[s, x], argTypes := #[t, t] })
    {α : Type} {E : SE α} [SMono E] {te size bytes : Nat} {z : Value} (hT : SlT P t te size bytes z) {v : Value} {ds : List α} {F G : List Nat} {w0 : World} {cs : Array Value} {d : α} {c b0 : Nat} (hs : a.eval s = v) (hx : a.eval x = .slice (some ⟨b0, 0, none⟩) 1 c) (hw : w = w0.alloc (.cells cs te)) (hb0 : b0 = w0.heap.size)
    (hE : E w0 cs.toList d G) (hc : cs.size = size) (h1 : ∀ u ∈ cs.toList, u.oneCell' = true)
    (hS : SV te size E w0 v ds F) (hN : (F ++ G).Nodup) (hlen : ds.length + 1 ≤ 2000000000) (hby : bytes ≤ 60000)
    (h : ∀ v' w' F', SV te size E w' v' (ds ++ [d]) F' → Chg F w0 w' → F'.Nodup → (∀ b ∈ F', b ∈ F ∨ b ∈ G ∨ w0.heap.size ≤ b) → wpList P ops Q rest (a.put o.dst v') w') : wpList P ops Q (o :: rest) a w := by
  subst hw hb0
  have hx1 := alloc_ext w0 (.cells cs te)
  have hS' : SV te size E (w0.alloc (.cells cs te)) v ds F := hS.toExt hx1
  have hE' : E (w0.alloc (.cells cs te)) cs.toList d G := SMono.keep hE fun b hb => by
    obtain ⟨y, e⟩ := hx1
    rw [e]; exact (below_ext w0 y).block b (SMono.lt hE b hb)
  have hB := BoxAt.new w0 cs te
  refine wpList_appS _ hgd s x t ho hT hs hS' (List.nodup_append.1 hN).1 hx (cs := cs.toList) (es := [d]) (G := G) (fun j u hj => ?_) h1 rfl (elems_one (by simpa using hc) hE') hN hlen hby ?_
  · have e : (⟨w0.heap.size, 0, none⟩ : Addr).add j = ⟨w0.heap.size, j, none⟩ := by
      unfold Addr.add
      split
      · rename_i h; subst h; rfl
      · simp
    rw [e, hB.2.1 j]
    simpa using hj
  · intro v' w' F' h2 h3 h4 h5
    refine h v' w' F' h2 (((Chg.refl F w0).alloc _).trans h3 (fun x hx => .inl hx)) h4 fun b hb => ?_
    rcases h5 b hb with h | h | h
    · exact .inl h
    · exact .inr (.inl h)
    · exact .inr (.inr (by simp at h; omega))
/-- the same at a step of a region that draws its order -/
theorem step_app1 {ops : Array Oper} {o : Oper} {a : Act} {K : Act → World → Prop} {Q : Exit → Act → World → Prop} {X : Prop} (hgd : o.guard = none) (s x : Operand) (t : TypeId)
    (ho : o.op = .call { callee := .builtin .append, args := #[s, x], argTypes := #[t, t] })
    {α : Type} {E : SE α} [SMono E] [SPlain E] {te size bytes : Nat} {z : Value} (hT : SlT P t te size bytes z) {v : Value} {ds : List α} {F : List Nat} {w0 : World} {cs : Array Value} {d : α} {c b0 : Nat} (hs : a.eval s = v) (hx : a.eval x = .slice (some ⟨b0, 0, none⟩) 1 c) (hw : w = w0.alloc (.cells cs te)) (hb0 : b0 = w0.heap.size)
    (hE : ∀ w, E w cs.toList d []) (hc : cs.size = size) (h1 : ∀ u ∈ cs.toList, u.oneCell' = true)
    (hS : SV te size E w0 v ds F) (hlen : ds.length + 1 ≤ 2000000000) (hby : bytes ≤ 60000)
    (h : ∀ v' w' F', SV te size E w' v' (ds ++ [d]) F' → Chg F w0 w' → (∀ b ∈ F', b ∈ F ∨ w0.heap.size ≤ b) → K (a.put o.dst v') w') :
    if Region.wanted o (yielded ops a.tmps) = true then Oper.wp P o a w K Q else X := by
  have hwt : Region.wanted o (yielded ops a.tmps) = true := by simp [Region.wanted, hgd]
  rw [if_pos hwt]
  subst hw hb0
  have hS' : SV te size E (w0.alloc (.cells cs te)) v ds F := hS.toExt (alloc_ext w0 _)
  have hN := BoxAt.new w0 cs te
  refine wp_appS _ s x t ho hT hs hS' hS'.nodup hx (cs := cs.toList) (es := [d]) (G := []) (fun j u hj => ?_) h1 rfl (elems_one (by simpa using hc) (hE _)) (by simpa using hS'.nodup) hlen hby ?_
  · have e : (⟨w0.heap.size, 0, none⟩ : Addr).add j = ⟨w0.heap.size, j, none⟩ := by
      unfold Addr.add
      split
      · rename_i h; subst h; rfl
      · simp
    rw [e, hN.2.1 j]
    simpa using hj
  · intro v' w' F' h2 h3 _ h5
    refine h v' w' F' h2 (((Chg.refl F w0).alloc _).trans h3 (fun x hx => .inl hx)) fun b hb => ?_
    rcases h5 b hb with h | h | h
    · exact .inl h
    · simp at h
    · exact .inr (by simp at h; omega)
end
theorem BoxAt.set2 {w : World} {B : Nat} {u v u' v' : Value} (h : BoxAt w B #[u, v]) : BoxAt ((w.setCell ⟨B, 0, none⟩ u').setCell ⟨B, 1, none⟩ v') B #[u', v'] := by
  obtain ⟨h1, h2, h3⟩ := h
  have e0 := h2 0
  have e1 := h2 1
  simp at e0 e1
  refine ⟨by simpa using h1, fun j => ?_, fun j => ?_⟩
  · rcases j with _ | _ | j
    · go_simp
    · go_simp
    · have := h2 (j + 2)
      go_simp
  · go_simp
theorem BoxAt.set2' {w : World} {B B' : Nat} {cs : Array Value} {u' v' : Value} (h : BoxAt w B cs) (hne : B ≠ B') : BoxAt ((w.setCell ⟨B', 0, none⟩ u').setCell ⟨B', 1, none⟩ v') B cs :=
  h.chg (((Chg.refl [B'] w).setCell (.inl (by simp)) _).setCell (.inl (by simp)) _) (by simpa using hne)

theorem BoxAt.setO {w : World} {B B' k : Nat} {cs : Array Value} {u : Value} (h : BoxAt w B cs) (hne : B ≠ B') : BoxAt (w.setCell ⟨B', k, none⟩ u) B cs :=
  h.chg ((Chg.refl [B'] w).setCell (.inl (by simp)) _) (by simpa using hne)
theorem BoxAt.setP0 {w : World} {B : Nat} {u v u' : Value} (h : BoxAt w B #[u, v]) : BoxAt (w.setCell ⟨B, 0, none⟩ u') B #[u', v] := by
  obtain ⟨h1, h2, h3⟩ := h
  have e0 := h2 0
  have e1 := h2 1
  simp at e0 e1
  refine ⟨by simpa using h1, fun j => ?_, fun j => ?_⟩
  · rcases j with _ | _ | j
    · go_simp
    · go_simp
    · have := h2 (j + 2)
      go_simp
  · go_simp
theorem BoxAt.setP1 {w : World} {B : Nat} {u v v' : Value} (h : BoxAt w B #[u, v]) : BoxAt (w.setCell ⟨B, 1, none⟩ v') B #[u, v'] := by
  obtain ⟨h1, h2, h3⟩ := h
  have e0 := h2 0
  have e1 := h2 1
  simp at e0 e1
  refine ⟨by simpa using h1, fun j => ?_, fun j => ?_⟩
  · rcases j with _ | _ | j
    · go_simp
    · go_simp
    · have := h2 (j + 2)
      go_simp
  · go_simp
end Go.Proofs.YtgehnacmgofobaaDoor
