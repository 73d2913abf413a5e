/- Contracts of functions that the statement reaches. -/
import Derived.Test.YtbjpkfgkmilkdaaG05
import Derived.Test.YtbjpkfgkmilkdaaG03
namespace Go.Proofs.Ytbjpkfgkmilkdaa
open Go.RowKit
def Lie {α : Type} (size : Nat) (E : SE α) (w : World) (A : Option Addr) (es : List α) (G : List Nat) : Prop :=
  ∃ cs, elems size E w cs es G ∧ (∀ u ∈ cs, u.oneCell' = true) ∧ (A = none → es = []) ∧ ∀ ad, A = some ad → ∀ j u, cs[j]? = some u → w.cell? (ad.add j) = some u
section
variable {P : Program} {w w' : World} {α : Type} {E : SE α} {te size bytes : Nat}
variable [SMono E]
theorem Lie.keep {A : Option Addr} {es : List α} {G : List Nat} (h : Lie size E w A es G) (hG : ∀ b ∈ G, w'.heap[b]? = w.heap[b]?) (hA : ∀ ad, A = some ad → w'.heap[ad.block]? = w.heap[ad.block]?) : Lie size E w' A es G := by
  obtain ⟨cs, h1, h2, h3, h4⟩ := h
  refine ⟨cs, elems_keep h1 hG, h2, h3, fun ad e j u hj => ?_⟩
  have hb : (ad.add j).block = ad.block := by unfold Addr.add; split <;> rfl
  have h9 := hA ad e
  rw [← hb] at h9
  exact (World.cell?_of_block h9).trans (h4 ad e j u hj)
end
end Go.Proofs.Ytbjpkfgkmilkdaa
namespace Go.Proofs.Ytbjpkfgkmilkdaa
open Go.RowKit
section
variable {α : Type} {te size : Nat} {E : SE α} {w w' : World} {v : Value} {ds : List α} {F G : List Nat}
theorem SV.setG [SMono E] (h : SV te size E w v ds F) (hN : (F ++ G).Nodup) {k : Nat} (hk : k < ds.length) {g : Nat} (hv : ∃ n cap, v = .slice (some ⟨g, 0, none⟩) n cap) {j : Nat} {u : Value} {d' : α} (hj : j < size)
    (hE : ∀ c Fk, c.length = size → E w c ds[k] Fk → (∀ i (hi : i < c.length), w.cell? ⟨g, k * size + i, none⟩ = some c[i]) → E w (c.set j u) d' G) : ∃ F', SV te size E (w.setCell ⟨g, k * size + j, none⟩ u) v (ds.set k d') F' ∧ F'.Nodup ∧ ∀ b ∈ F', b ∈ F ∨ b ∈ G := by
  obtain ⟨n, cap, rfl⟩ := hv
  obtain ⟨_, _, e0, _, _⟩ := h.form
  injection e0 with _ e0 _
  subst e0
  obtain ⟨vs, F2, h1, h2, h3⟩ := h
  obtain ⟨c, vs1, vs2, G1, G2, Fk, e1, e2, e3, e4, e5, e6, e7⟩ := elems_upd (c' := []) (d' := ds[k]) (Fk := []) (w' := w) h2 hk
  have hfp : fpOf (.slice (some ⟨g, 0, none⟩) ds.length cap) = [g] := rfl
  rw [hfp] at h3
  subst h3 e4
  have hN' := hN
  rw [List.nodup_append] at hN'
  obtain ⟨m1, m2, m3⟩ := hN'
  rw [List.singleton_append, List.nodup_cons, List.nodup_append, List.nodup_append] at m1
  obtain ⟨n1, n2, ⟨n3, n4, n5⟩, n6⟩ := m1
  have hm : (k + 1) * size ≤ ds.length * size := Nat.mul_le_mul_right _ hk
  rw [Nat.add_mul, Nat.one_mul] at hm
  have hlen := elems_length h2
  have hE' := hE c Fk e3 (e5 hk) fun i hi => by
    rw [h1.cellAt _ (by omega), e1, List.getElem?_append_right (by omega), e2, show k * size + i - k * size = i by omega, List.getElem?_append_left hi, List.getElem?_eq_getElem hi]
  obtain ⟨h4, h5⟩ := h1.stored (k * size + j) u
  have hC : Chg [g] w (w.setCell ⟨g, k * size + j, none⟩ u) := Chg.ofGrown h5 fun k hk => by simpa using hk.symm
  have hkp : ∀ b, b ∈ G1 ++ (Fk ++ G2) ∨ b ∈ G → (w.setCell ⟨g, k * size + j, none⟩ u).heap[b]? = w.heap[b]? := fun b hb => by
    refine hC.block b ?_ ?_
    · rcases hb with hb | hb
      · exact elems_lt h2 b hb
      · exact SMono.lt hE' b hb
    · intro e
      rw [List.mem_singleton.1 e] at hb
      rcases hb with hb | hb
      · exact n1 hb
      · exact m3 g (by simp) g hb rfl
  refine ⟨[g] ++ (G1 ++ (G ++ G2)), ⟨vs.set (k * size + j) u, G1 ++ (G ++ G2), by rw [List.length_set]; exact h4, ?_, by rw [hfp]⟩, ?_, fun b hb => ?_⟩
  · have ev : vs.set (k * size + j) u = vs1 ++ (c.set j u ++ vs2) := by
      rw [e1, List.set_append_right _ _ (by omega), e2, show k * size + j - k * size = j by omega, List.set_append_left _ _ (by omega)]
    rw [ev, set_split hk]
    exact elems_join (elems_keep e6 fun b hb => hkp b (.inl (by simp [hb]))) (by rw [List.length_set]; exact e3) (SMono.keep hE' fun b hb => hkp b (.inr hb)) (elems_keep e7 fun b hb => hkp b (.inl (by simp [hb])))
  · rw [List.singleton_append, List.nodup_cons, List.nodup_append, List.nodup_append]
    refine ⟨?_, n2, ⟨m2, n4, ?_⟩, ?_⟩
    · intro hb
      simp only [List.mem_append] at hb
      rcases hb with hb | hb | hb
      · exact n1 (by simp [hb])
      · exact m3 g (by simp) g hb rfl
      · exact n1 (by simp [hb])
    · intro a ha b hb e
      exact m3 b (by simp [hb]) a ha e.symm
    · intro a ha b hb e
      rcases List.mem_append.1 hb with h | h
      · exact m3 a (by simp [ha]) b h e
      · exact n6 a ha b (by simp [h]) e
  · simp only [List.singleton_append, List.mem_cons, List.mem_append] at hb ⊢
    rcases hb with hb | hb | hb | hb
    · exact .inl (.inl hb)
    · exact .inl (.inr (.inl hb))
    · exact .inr hb
    · exact .inl (.inr (.inr (.inr hb)))
end
def sKept {α : Type} (S : SE α) (W : World) (G : List Nat) : SE α := fun _ c d F => F = [] ∧ ∃ Fk, S W c d Fk ∧ ∀ b ∈ Fk, b ∈ G
instance {α : Type} (S : SE α) (W : World) (G : List Nat) : SMono (sKept S W G) := ⟨fun h b hb => by rw [h.1] at hb; simp at hb, fun h _ => h⟩
instance {α : Type} (S : SE α) (W : World) (G : List Nat) : SPlain (sKept S W G) := ⟨fun h => h.1⟩
end Go.Proofs.Ytbjpkfgkmilkdaa
