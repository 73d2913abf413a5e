/- Contracts of functions that the statement reaches. -/
import Derived.Test.YtbjpkfgkmilkdaaG03
namespace Go.Proofs.Ytbjpkfgkmilkdaa
open Go.RowKit
theorem sAt_mk {w : World} {s : ByteArray} {xs : List Int} {v : Value} {F : List Nat} (h : SV 3 1 sI w v xs F) : sAt w [.string s, v] (s, xs) F :=
  ⟨[.string s], [v], [], F, rfl, rfl, ⟨rfl, rfl⟩, ⟨v, rfl, h⟩, rfl⟩
theorem sQ_get {w : World} {v0 v1 v2 : Value} {d : Qd} {F : List Nat} (h : sQ w [v0, v1, v2] d F) : ∃ F1 F2, F = F1 ++ F2 ∧ v0 = .int .i64 d.1 ∧ sAts w [v1] d.2.1 F1 ∧ SV 3 1 sI w v2 d.2.2 F2 := by
  obtain ⟨c0, c1, F0, F1, e0, h0, ⟨h1, f1⟩, ⟨c2, c3, F2, F3, e1, h2, ⟨u1, rfl, h3⟩, ⟨u2, rfl, h4⟩, e5⟩, e6⟩ := h
  subst e1 h1 f1 e5
  simp only [List.cons_append, List.nil_append, List.cons.injEq, and_true] at e0
  obtain ⟨rfl, rfl, rfl⟩ := e0
  exact ⟨F2, F3, by simpa using e6, rfl, ⟨_, rfl, h3⟩, h4⟩
end Go.Proofs.Ytbjpkfgkmilkdaa
namespace Go.Proofs.Ytbjpkfgkmilkdaa
open Go.RowKit
section
variable {α : Type} {te size te2 : Nat} {E : SE α} [SMono E] {w : World} {ds : List (List α)} {F : List Nat} {g n cap k : Nat}
theorem SV.row (h : SV te 1 (sSl te2 size E) w (.slice (some ⟨g, 0, none⟩) n cap) ds F) (hN : F.Nodup) (hk : k < ds.length) : ∃ v Fk, g < w.heap.size ∧ w.cell? ⟨g, k, none⟩ = some v ∧ (∀ j, w.frozen? ⟨g, j, none⟩ = false) ∧ SV te2 size E w v ds[k] Fk ∧ (∀ b ∈ Fk, b ∈ F) ∧ Fk.Nodup ∧ g ∉ Fk ∧ g ∈ F ∧
    (∀ w' d', SV te2 size E w' v d' Fk → Chg Fk w w' → SV te 1 (sSl te2 size E) w' (.slice (some ⟨g, 0, none⟩) n cap) (ds.set k d') F) ∧
    (∀ w' v' d' F', Chg Fk w w' → SV te2 size E w' v' d' F' → F'.Nodup → (∀ b ∈ F', b ∈ Fk ∨ w.heap.size ≤ b) → ∃ F2, SV te 1 (sSl te2 size E) (w'.setCell ⟨g, k, none⟩ v') (.slice (some ⟨g, 0, none⟩) n cap) (ds.set k d') F2 ∧ F2.Nodup ∧ (∀ b ∈ F2, b ∈ F ∨ b ∈ F')) := by
  obtain ⟨_, _, e0, _, _⟩ := h.form
  injection e0 with _ e0 _
  subst e0
  obtain ⟨vs, F2, h1, h2, h3⟩ := h
  obtain ⟨c, vs1, vs2, G1, G2, Fk, e1, e2, e3, e4, e5, e6, e7⟩ := elems_upd (c' := []) (d' := ds[k]) (Fk := []) (w' := w) h2 hk
  have hfp : fpOf (.slice (some ⟨g, 0, none⟩) ds.length cap) = [g] := rfl
  rw [hfp] at h3
  subst h3 e4
  have hN' := hN
  rw [List.singleton_append, List.nodup_cons, List.nodup_append, List.nodup_append] at hN'
  obtain ⟨n1, n2, ⟨n3, n4, n5⟩, n6⟩ := hN'
  have hgk : g ∉ Fk := fun hm => n1 (by simp [hm])
  have hlt := (h1.lt g rfl).2
  have hlen := elems_length h2
  obtain ⟨v, hcv, hv⟩ := e5 hk
  subst hcv
  have hcell : w.cell? ⟨g, k, none⟩ = some v := by
    rw [h1.cellAt _ (by omega), e1, List.getElem?_append_right (by omega), e2]
    simp
  refine ⟨v, Fk, hlt, hcell, fun j => h1.frozenAt j, hv, fun b hb => by simp [hb], n3, hgk, by simp, fun w' d' hE hC => ?_, fun w' v' d' F' hC hE hNF hF' => ?_⟩
  · refine ⟨vs, G1 ++ (Fk ++ G2), ?_, ?_, by rw [hfp]⟩
    · rw [List.length_set]
      refine ownsRow_keepB h1 fun b hb => hC.block b ?_ ?_
      · rw [hfp] at hb; rw [List.mem_singleton.1 hb]; exact hlt
      · rw [hfp] at hb; rw [List.mem_singleton.1 hb]; exact hgk
    · rw [e1, set_split hk]
      refine elems_join (elems_keep e6 fun b hb => hC.block b (elems_lt e6 b hb) ?_) e3 ⟨v, rfl, hE⟩ (elems_keep e7 fun b hb => hC.block b (elems_lt e7 b hb) ?_)
      · exact fun hf => n6 b hb b (by simp [hf]) rfl
      · exact fun hf => n5 b hf b hb rfl
  · have hg1 : ∀ b, b ∈ G1 → b < w.heap.size := fun b hb => elems_lt e6 b hb
    have hg2 : ∀ b, b ∈ G2 → b < w.heap.size := fun b hb => elems_lt e7 b hb
    have hgF : g ∉ F' := fun hb => by
      rcases hF' g hb with h | h
      · exact hgk h
      · omega
    have hown : w'.ownsRow 0 te 1 (.slice (some ⟨g, 0, none⟩) ds.length cap) ds.length vs := ownsRow_keepB h1 fun b hb => hC.block b (by rw [hfp] at hb; rw [List.mem_singleton.1 hb]; exact hlt) (by rw [hfp] at hb; rw [List.mem_singleton.1 hb]; exact hgk)
    obtain ⟨h4, h5⟩ := hown.stored k v'
    have hC2 : Chg [g] w' (w'.setCell ⟨g, k, none⟩ v') := Chg.ofGrown h5 fun k hk => by simpa using hk.symm
    have a6 : elems 1 (sSl te2 size E) (w'.setCell ⟨g, k, none⟩ v') vs1 (ds.take k) G1 := elems_keep (elems_keep e6 fun b hb => hC.block b (hg1 b hb) (fun hf => n6 b hb b (by simp [hf]) rfl)) fun b hb => hC2.block b (Nat.lt_of_lt_of_le (hg1 b hb) hC.size) (fun hf => n1 (by rw [← List.mem_singleton.1 hf]; simp [hb]))
    have a7 : elems 1 (sSl te2 size E) (w'.setCell ⟨g, k, none⟩ v') vs2 (ds.drop (k + 1)) G2 := elems_keep (elems_keep e7 fun b hb => hC.block b (hg2 b hb) (fun hf => n5 b hf b hb rfl)) fun b hb => hC2.block b (Nat.lt_of_lt_of_le (hg2 b hb) hC.size) (fun hf => n1 (by rw [← List.mem_singleton.1 hf]; simp [hb]))
    have aE : SV te2 size E (w'.setCell ⟨g, k, none⟩ v') v' d' F' := hE.chg hC2 (fun b hb hf => hgF (by rw [← List.mem_singleton.1 hf]; exact hb))
    refine ⟨[g] ++ (G1 ++ (F' ++ G2)), ⟨vs.set k v', G1 ++ (F' ++ G2), by rw [List.length_set]; exact h4, ?_, rfl⟩, ?_, ?_⟩
    · have ev : vs.set k v' = vs1 ++ ([v'] ++ vs2) := by
        rw [e1, List.set_append_right _ _ (by omega), e2, show k - k * 1 = 0 by omega]
        simp
      rw [ev, set_split hk]
      exact elems_join a6 rfl ⟨v', rfl, aE⟩ a7
    · rw [List.singleton_append, List.nodup_cons, List.nodup_append, List.nodup_append]
      refine ⟨fun hm => ?_, n2, ⟨hNF, n4, fun a ha b hb e => ?_⟩, fun a ha b hb e => ?_⟩
      · rcases List.mem_append.1 hm with h | h
        · exact n1 (by simp [h])
        · rcases List.mem_append.1 h with h | h
          · exact hgF h
          · exact n1 (by simp [h])
      · subst e
        rcases hF' a ha with h | h
        · exact n5 a h a hb rfl
        · have := hg2 a hb; omega
      · subst e
        rcases List.mem_append.1 hb with h | h
        · rcases hF' a h with h | h
          · exact n6 a ha a (by simp [h]) rfl
          · have := hg1 a ha; omega
        · exact n6 a ha a (by simp [h]) rfl
    · intro b hb
      rcases List.mem_append.1 hb with h | h
      · exact .inl (by simp at h; simp [h])
      · rcases List.mem_append.1 h with h | h
        · exact .inl (by simp [h])
        · rcases List.mem_append.1 h with h | h
          · exact .inr h
          · exact .inl (by simp [h])
end
end Go.Proofs.Ytbjpkfgkmilkdaa
