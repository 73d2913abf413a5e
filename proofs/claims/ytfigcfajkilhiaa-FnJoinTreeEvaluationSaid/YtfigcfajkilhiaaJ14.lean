/- Contracts of functions that the statement reaches. -/
import Derived.Test.YtfigcfajkilhiaaJ10
import Derived.Test.YtfigcfajkilhiaaJ04
import Derived.Test.YtfigcfajkilhiaaJ03
import Derived.Test.YtfigcfajkilhiaaJ01
import Derived.Test.YtfigcfajkilhiaaJ06
import Derived.Test.YtfigcfajkilhiaaJ12
namespace Go.Proofs.Ytfigcfajkilhiaa
open Go.RowKit
def Lie {α : Type} (size : Nat) (E : SE α) (w : World) (A : Option Addr) (es : List α) (G : List Nat) : Prop :=
  ∃ cs, elems size E w cs es G ∧ (∀ u ∈ cs, u.oneCell' = true) ∧ (A = none → es = []) ∧ ∀ ad, A = some ad → ∀ j u, cs[j]? = some u → w.cell? (ad.add j) = some u
theorem elems_one1 {α : Type} {E : SE α} {w : World} {size : Nat} (hE1 : ∀ w c d F, E w c d F → ∀ u ∈ c, u.oneCell' = true) : ∀ {vs : List Value} {ds : List α} {F : List Nat}, elems size E w vs ds F → ∀ u ∈ vs, u.oneCell' = true
  | _, [], _, ⟨h, _⟩, u, hu => by subst h; simp at hu
  | _, _ :: _, _, ⟨c, vs', F1, F2, h1, _, h3, h4, _⟩, u, hu => by
    subst h1
    rcases List.mem_append.1 hu with h | h
    · exact hE1 _ _ _ _ h3 u h
    · exact elems_one1 hE1 h4 u h
section
variable {P : Program} {w w' : World} {α : Type} {E : SE α} {te size bytes : Nat}
theorem SV.parts {v : Value} {ds : List α} {F : List Nat} (hE1 : ∀ w c d F, E w c d F → ∀ u ∈ c, u.oneCell' = true) (h : SV te size E w v ds F) (hN : F.Nodup) {k : Nat} (hk : k ≤ ds.length) : ∃ A cap G1 G2, v = .slice A ds.length cap ∧ ds.length ≤ cap ∧ Hid (cap ≤ maxLen) ∧ (A = none → ds = []) ∧
    (∀ b o, A = some ⟨b, o, none⟩ → o = 0) ∧ (∀ ad, A = some ad → ∃ b, ad = ⟨b, 0, none⟩) ∧ (∀ b ∈ G1, b ∈ F) ∧ (∀ b ∈ G2, b ∈ F) ∧ G1.Nodup ∧ G2.Nodup ∧ (∀ b ∈ G1, b ∉ G2) ∧
    Lie size E w A (ds.take k) G1 ∧ (∀ A', (∀ b, A = some ⟨b, 0, none⟩ → A' = some ⟨b, k * size, none⟩) → (A = none → A' = none) → Lie size E w A' (ds.drop k) G2) := by
  obtain ⟨A, cap, rfl, hc1, hc2⟩ := h.form
  obtain ⟨vs, F2, h1, h2, rfl⟩ := h
  have h2' := h2
  rw [← List.take_append_drop k ds] at h2'
  obtain ⟨vs1, vs2, G1, G2, e1, e2, k1, k2⟩ := elems_split h2'
  have hl1 := elems_length k1
  have hl2 := elems_length k2
  rw [List.length_take, Nat.min_eq_left hk] at hl1
  have hNd := (List.nodup_append.1 hN).2.1
  rw [e2] at hNd
  obtain ⟨n1, n2, n3⟩ := List.nodup_append.1 hNd
  have hA : ∀ ad, A = some ad → ∃ b, ad = ⟨b, 0, none⟩ := fun ad e => by
    subst e
    rcases h1.2 with ⟨h9, _⟩ | ⟨g, cap', cur, h9, _⟩
    · injection h9 with h9; cases h9
    · injection h9 with h9; injection h9 with h9; exact ⟨g, h9⟩
  have hA0 : A = none → ds = [] := fun e => by
    subst e
    rcases h1.2 with ⟨_, h9⟩ | ⟨g, cap', cur, h9, _⟩
    · exact List.eq_nil_of_length_eq_zero h9
    · injection h9 with h9; cases h9
  have hcell : ∀ b, A = some ⟨b, 0, none⟩ → ∀ j u, vs[j]? = some u → w.cell? ⟨b, j, none⟩ = some u := fun b e j u hj => by
    subst e
    have hlt := (List.getElem?_eq_some_iff.1 hj).1
    have hvl := elems_length h2
    rw [h1.cellAt j (by omega)]
    exact hj
  have hadd : ∀ b o j, (⟨b, o, none⟩ : Addr).add j = ⟨b, o + j, none⟩ := fun b o j => by
    unfold Addr.add
    split
    · rename_i h; subst h; rfl
    · rfl
  refine ⟨A, cap, G1, G2, rfl, hc1, hc2, hA0, fun b o e => ?_, hA, fun b hb => by rw [e2]; simp [hb], fun b hb => by rw [e2]; simp [hb], n1, n2, fun b hb hb2 => n3 b hb b hb2 rfl, ?_, fun A' hA1 hA2 => ?_⟩
  · obtain ⟨b', e'⟩ := hA _ e
    injection e'
  · refine ⟨vs1, k1, elems_one1 hE1 k1, fun e => by rw [hA0 e]; simp, fun ad e j u hj => ?_⟩
    obtain ⟨b, rfl⟩ := hA ad e
    rw [hadd, Nat.zero_add]
    exact hcell b e j u (by rw [e1, List.getElem?_append_left (List.getElem?_eq_some_iff.1 hj).1]; exact hj)
  · refine ⟨vs2, k2, elems_one1 hE1 k2, fun e => ?_, fun ad e j u hj => ?_⟩
    · cases hq : A with
      | none => rw [hA0 hq]; simp
      | some ad =>
        obtain ⟨b, rfl⟩ := hA ad hq
        rw [hA1 b hq] at e; cases e
    · cases hq : A with
      | none => rw [hA2 hq] at e; cases e
      | some ad' =>
        obtain ⟨b, rfl⟩ := hA ad' hq
        rw [hA1 b hq] at e
        injection e with e
        subst e
        rw [hadd]
        refine hcell b hq _ u ?_
        rw [e1, List.getElem?_append_right (by omega), hl1, Nat.add_sub_cancel_left]
        exact hj
variable [SMono E]
theorem Lie.keep {A : Option Addr} {es : List α} {G : List Nat} (h : Lie size E w A es G) (hG : ∀ b ∈ G, w'.heap[b]? = w.heap[b]?) (hA : ∀ ad, A = some ad → w'.heap[ad.block]? = w.heap[ad.block]?) : Lie size E w' A es G := by
  obtain ⟨cs, h1, h2, h3, h4⟩ := h
  refine ⟨cs, elems_keep h1 hG, h2, h3, fun ad e j u hj => ?_⟩
  have hb : (ad.add j).block = ad.block := by unfold Addr.add; split <;> rfl
  have h9 := hA ad e
  rw [← hb] at h9
  exact (World.cell?_of_block h9).trans (h4 ad e j u hj)
theorem wp_appP {o : Oper} {a : Act} {K : Act → World → Prop} {Q : Exit → Act → World → Prop} (s x : Operand) (t : TypeId)
    (ho : o.op = .call { callee := .builtin .append, args := #[s, x], argTypes := #[t, t] })
    {z : Value} (hT : SlT P t te size bytes z) {v : Value} {ds : List α} {F : List Nat} (hs : a.eval s = v) (hS : SV te size E w v ds F) (hN : F.Nodup)
    {A : Option Addr} {m c : Nat} {es : List α} {G : List Nat} (hx : a.eval x = .slice A m c) (hm : m = es.length) (hL : Lie size E w A es G) (hN2 : (F ++ G).Nodup) (hlen : ds.length + m ≤ 2000000000) (hby : bytes ≤ 60000)
    (h : ∀ v' w' F', SV te size E w' v' (ds ++ es) F' → Chg F w w' → F'.Nodup → (∀ b ∈ F', b ∈ F ∨ b ∈ G ∨ w.heap.size ≤ b) → K (a.put o.dst v') w') : o.wp P a w K Q := by
  obtain ⟨cs, k1, k2, k3, k4⟩ := hL
  cases A with
  | some ad => exact wp_appS _ s x t ho hT hs hS hN hx (k4 ad rfl) k2 hm k1 hN2 hlen hby h
  | none =>
    have e0 := k3 rfl
    subst e0
    subst hm
    obtain ⟨ht, hi, _, _⟩ := hT
    obtain ⟨i, hi, _, _, _⟩ := info_parts hi
    have hS' := hS
    obtain ⟨vs, F2, ho', _, _⟩ := hS'
    have hrun := run_append_none_c (P := P) (w := w) 0 t o.type te i size c ht hi v ds.length vs ho'
    unfold Oper.wp execOp
    simp only [ho, resolve, invoke, builtin, Sem.run_bind, Sem.run_pure, Result.andThen_ok, List.map_toArray, List.map_cons, List.map_nil, hs, hx, List.length_nil, hrun]
    exact h v w F (by simpa using hS) (Chg.refl F w) hN fun b hb => .inl hb
end
theorem SV.swap3 {α : Type} {te : Nat} {w : World} {E : SE α} [SMono E] {ds : List α} {g cap n : Nat} {F G : List Nat} (h : SV te 3 E w (.slice (some ⟨g, 0, none⟩) n cap) ds F) (hn : ds.length = n) (hN : (F ++ G).Nodup) {k : Nat} (hk : k < ds.length) {u v x : Value} {d : α} (hE : E w [u, v, x] d G) :
    ∃ F', SV te 3 E (((w.setCell ⟨g, k * 3, none⟩ u).setCell ⟨g, k * 3 + 1, none⟩ v).setCell ⟨g, k * 3 + 2, none⟩ x) (.slice (some ⟨g, 0, none⟩) n cap) (ds.set k d) F' ∧ Chg [g] w (((w.setCell ⟨g, k * 3, none⟩ u).setCell ⟨g, k * 3 + 1, none⟩ v).setCell ⟨g, k * 3 + 2, none⟩ x) ∧ F'.Nodup ∧ (∀ b ∈ F', b ∈ F ∨ b ∈ G) ∧ g ∈ F := by
  subst hn
  obtain ⟨vs, F2, h1, h2, h3⟩ := h
  have hfp : fpOf (.slice (some ⟨g, 0, none⟩) ds.length cap) = [g] := rfl
  rw [hfp] at h3
  obtain ⟨c, vs1, vs2, G1, G2, Fk, e1, e2, e3, e4, e5, e6, e7⟩ := elems_upd (c' := []) (d' := d) (Fk := []) (w' := w) h2 hk
  subst h3 e4
  have hN' := hN
  rw [List.nodup_append] at hN'
  obtain ⟨m1, m2, m3⟩ := hN'
  rw [List.singleton_append, List.nodup_cons, List.nodup_append, List.nodup_append] at m1
  obtain ⟨n1, n2, ⟨n3, n4, n5⟩, n6⟩ := m1
  have hlen := elems_length h2
  have hm : (k + 1) * 3 ≤ ds.length * 3 := Nat.mul_le_mul_right _ hk
  obtain ⟨s1, t1⟩ := h1.stored (k * 3) u
  obtain ⟨s2, t2⟩ := s1.stored (k * 3 + 1) v
  obtain ⟨s3, t3⟩ := s2.stored (k * 3 + 2) x
  have hC : Chg [g] w (((w.setCell ⟨g, k * 3, none⟩ u).setCell ⟨g, k * 3 + 1, none⟩ v).setCell ⟨g, k * 3 + 2, none⟩ x) := (((Chg.refl [g] w).setCell (.inl (by simp)) u).setCell (.inl (by simp)) v).setCell (.inl (by simp)) x
  have hl1 : vs1.length = k * 3 := e2
  have hvs : ((vs.set (k * 3) u).set (k * 3 + 1) v).set (k * 3 + 2) x = vs1 ++ ([u, v, x] ++ vs2) := by
    match c, e3 with
    | [c0, c1, c2], _ =>
      rw [e1, List.set_append_right _ _ (by omega), List.set_append_right _ _ (by omega), List.set_append_right _ _ (by omega), hl1, Nat.sub_self, show k * 3 + 1 - k * 3 = 1 by omega, show k * 3 + 2 - k * 3 = 2 by omega]
      rfl
  rw [hvs] at s3
  have hkp : ∀ b, b ∈ G1 ++ (Fk ++ G2) ∨ b ∈ G → (((w.setCell ⟨g, k * 3, none⟩ u).setCell ⟨g, k * 3 + 1, none⟩ v).setCell ⟨g, k * 3 + 2, none⟩ x).heap[b]? = w.heap[b]? := fun b hb => by
    refine hC.block b ?_ ?_
    · rcases hb with hb | hb
      · exact elems_lt h2 b hb
      · exact SMono.lt hE b hb
    · intro e
      rw [List.mem_singleton.1 e] at hb
      rcases hb with hb | hb
      · exact n1 hb
      · exact m3 g (by simp) g hb rfl
  refine ⟨[g] ++ (G1 ++ (G ++ G2)), ⟨vs1 ++ ([u, v, x] ++ vs2), G1 ++ (G ++ G2), by rw [List.length_set]; exact s3, ?_, by rw [hfp]⟩, hC, ?_, fun b hb => ?_, by simp⟩
  · rw [set_split hk]
    exact elems_join (elems_keep e6 fun b hb => hkp b (.inl (by simp [hb]))) rfl (SMono.keep hE fun b hb => hkp b (.inr hb)) (elems_keep e7 fun b hb => hkp b (.inl (by simp [hb])))
  · rw [List.singleton_append, List.nodup_cons, List.nodup_append, List.nodup_append]
    refine ⟨?_, n2, ⟨m2, n4, ?_⟩, ?_⟩
    · intro hb
      simp only [List.mem_append] at hb
      rcases hb with hb | hb | hb
      · exact n1 (by simp [hb])
      · exact m3 g (by simp) g hb rfl
      · exact n1 (by simp [hb])
    · intro a ha b hb e
      exact m3 b (by simp [hb]) a ha e.symm
    · intro a ha b hb e
      rcases List.mem_append.1 hb with h | h
      · exact m3 a (by simp [ha]) b h e
      · exact n6 a ha b (by simp [h]) e
  · simp only [List.singleton_append, List.mem_cons, List.mem_append] at hb ⊢
    rcases hb with hb | hb | hb | hb
    · exact .inl (.inl hb)
    · exact .inl (.inr (.inl hb))
    · exact .inr hb
    · exact .inl (.inr (.inr (.inr hb)))
end Go.Proofs.Ytfigcfajkilhiaa
namespace Go.Proofs.Ytfigcfajkilhiaa
open Go.RowKit
section
variable {α : Type} {te size : Nat} {E : SE α} {w w' : World} {v : Value} {ds : List α} {F G : List Nat}
theorem SV.setG [SMono E] (h : SV te size E w v ds F) (hN : (F ++ G).Nodup) {k : Nat} (hk : k < ds.length) {g : Nat} (hv : ∃ n cap, v = .slice (some ⟨g, 0, none⟩) n cap) {j : Nat} {u : Value} {d' : α} (hj : j < size)
    (hE : ∀ c Fk, c.length = size → E w c ds[k] Fk → (∀ i (hi : i < c.length), w.cell? ⟨g, k * size + i, none⟩ = some c[i]) → E w (c.set j u) d' G) : ∃ F', SV te size E (w.setCell ⟨g, k * size + j, none⟩ u) v (ds.set k d') F' ∧ F'.Nodup ∧ ∀ b ∈ F', b ∈ F ∨ b ∈ G := by
  obtain ⟨n, cap, rfl⟩ := hv
  obtain ⟨_, _, e0, _, _⟩ := h.form
  injection e0 with _ e0 _
  subst e0
  obtain ⟨vs, F2, h1, h2, h3⟩ := h
  obtain ⟨c, vs1, vs2, G1, G2, Fk, e1, e2, e3, e4, e5, e6, e7⟩ := elems_upd (c' := []) (d' := ds[k]) (Fk := []) (w' := w) h2 hk
  have hfp : fpOf (.slice (some ⟨g, 0, none⟩) ds.length cap) = [g] := rfl
  rw [hfp] at h3
  subst h3 e4
  have hN' := hN
  rw [List.nodup_append] at hN'
  obtain ⟨m1, m2, m3⟩ := hN'
  rw [List.singleton_append, List.nodup_cons, List.nodup_append, List.nodup_append] at m1
  obtain ⟨n1, n2, ⟨n3, n4, n5⟩, n6⟩ := m1
  have hm : (k + 1) * size ≤ ds.length * size := Nat.mul_le_mul_right _ hk
  rw [Nat.add_mul, Nat.one_mul] at hm
  have hlen := elems_length h2
  have hE' := hE c Fk e3 (e5 hk) fun i hi => by
    rw [h1.cellAt _ (by omega), e1, List.getElem?_append_right (by omega), e2, show k * size + i - k * size = i by omega, List.getElem?_append_left hi, List.getElem?_eq_getElem hi]
  obtain ⟨h4, h5⟩ := h1.stored (k * size + j) u
  have hC : Chg [g] w (w.setCell ⟨g, k * size + j, none⟩ u) := Chg.ofGrown h5 fun k hk => by simpa using hk.symm
  have hkp : ∀ b, b ∈ G1 ++ (Fk ++ G2) ∨ b ∈ G → (w.setCell ⟨g, k * size + j, none⟩ u).heap[b]? = w.heap[b]? := fun b hb => by
    refine hC.block b ?_ ?_
    · rcases hb with hb | hb
      · exact elems_lt h2 b hb
      · exact SMono.lt hE' b hb
    · intro e
      rw [List.mem_singleton.1 e] at hb
      rcases hb with hb | hb
      · exact n1 hb
      · exact m3 g (by simp) g hb rfl
  refine ⟨[g] ++ (G1 ++ (G ++ G2)), ⟨vs.set (k * size + j) u, G1 ++ (G ++ G2), by rw [List.length_set]; exact h4, ?_, by rw [hfp]⟩, ?_, fun b hb => ?_⟩
  · have ev : vs.set (k * size + j) u = vs1 ++ (c.set j u ++ vs2) := by
      rw [e1, List.set_append_right _ _ (by omega), e2, show k * size + j - k * size = j by omega, List.set_append_left _ _ (by omega)]
    rw [ev, set_split hk]
    exact elems_join (elems_keep e6 fun b hb => hkp b (.inl (by simp [hb]))) (by rw [List.length_set]; exact e3) (SMono.keep hE' fun b hb => hkp b (.inr hb)) (elems_keep e7 fun b hb => hkp b (.inl (by simp [hb])))
  · rw [List.singleton_append, List.nodup_cons, List.nodup_append, List.nodup_append]
    refine ⟨?_, n2, ⟨m2, n4, ?_⟩, ?_⟩
    · intro hb
      simp only [List.mem_append] at hb
      rcases hb with hb | hb | hb
      · exact n1 (by simp [hb])
      · exact m3 g (by simp) g hb rfl
      · exact n1 (by simp [hb])
    · intro a ha b hb e
      exact m3 b (by simp [hb]) a ha e.symm
    · intro a ha b hb e
      rcases List.mem_append.1 hb with h | h
      · exact m3 a (by simp [ha]) b h e
      · exact n6 a ha b (by simp [h]) e
  · simp only [List.singleton_append, List.mem_cons, List.mem_append] at hb ⊢
    rcases hb with hb | hb | hb | hb
    · exact .inl (.inl hb)
    · exact .inl (.inr (.inl hb))
    · exact .inr hb
    · exact .inl (.inr (.inr (.inr hb)))
end
def sKept {α : Type} (S : SE α) (W : World) (G : List Nat) : SE α := fun _ c d F => F = [] ∧ ∃ Fk, S W c d Fk ∧ ∀ b ∈ Fk, b ∈ G
instance {α : Type} (S : SE α) (W : World) (G : List Nat) : SMono (sKept S W G) := ⟨fun h b hb => by rw [h.1] at hb; simp at hb, fun h _ => h⟩
instance {α : Type} (S : SE α) (W : World) (G : List Nat) : SPlain (sKept S W G) := ⟨fun h => h.1⟩
theorem sKept_v {α : Type} {S : SE α} [SMono S] {V : VE α} {W w : World} {G H : List Nat} (hV : ∀ w c d F, S w c d F → V w c d) (hC : Chg H W w) (hG : ∀ b ∈ G, b ∉ H) (c : List Value) (d : α) (F : List Nat) (h : sKept S W G w c d F) : V w c d := by
  obtain ⟨_, Fk, h1, h2⟩ := h
  exact hV _ _ _ Fk (SMono.keep h1 fun b hb => hC.block b (SMono.lt h1 b hb) (hG b (h2 b hb)))
theorem elems_kept {α : Type} {S : SE α} {w W : World} {size : Nat} {G : List Nat} : ∀ {vs : List Value} {ds : List α} {F : List Nat}, elems size S W vs ds F → (∀ b ∈ F, b ∈ G) → elems size (sKept S W G) w vs ds []
  | _, [], _, h, _ => ⟨h.1, rfl⟩
  | _, d :: ds, _, ⟨c, vs', F1, F2, h1, h2, h3, h4, h5⟩, hG => by
    subst h5
    exact ⟨c, vs', [], [], h1, h2, ⟨rfl, F1, h3, fun b hb => hG b (by simp [hb])⟩, elems_kept h4 fun b hb => hG b (by simp [hb]), rfl⟩
theorem SV.kept {α : Type} {te size : Nat} {S : SE α} {W : World} {v : Value} {ds : List α} {F : List Nat} (h : SV te size S W v ds F) (hN : F.Nodup) : ∃ G, SV te size (sKept S W G) W v ds (fpOf v) ∧ (∀ b ∈ G, b ∈ F) ∧ (∀ b ∈ fpOf v, b ∈ F ∧ b ∉ G) ∧
    ∀ k (hk : k < ds.length), ∃ g n cap c, v = .slice (some ⟨g, 0, none⟩) n cap ∧ c.length = size ∧ (∀ i (hi : i < c.length), W.cell? ⟨g, k * size + i, none⟩ = some c[i]) ∧ ∀ w, sKept S W G w c ds[k] [] := by
  have h' := h
  obtain ⟨vs, F2, h1, h2, rfl⟩ := h
  refine ⟨F2, ⟨vs, [], h1, elems_kept h2 fun b hb => hb, by simp⟩, fun b hb => by simp [hb], fun b hb => ⟨by simp [hb], fun hG => (List.nodup_append.1 hN).2.2 b hb b hG rfl⟩, fun k hk => ?_⟩
  obtain ⟨g, cap, hv, _, _, _⟩ := h'.block (by intro e; subst e; simp at hk)
  obtain ⟨c, vs1, vs2, G1, G2, Fk, e1, e2, e3, e4, e5, e6, e7⟩ := elems_upd (c' := []) (d' := ds[k]) (Fk := []) (w' := W) h2 hk
  have hm : (k + 1) * size ≤ ds.length * size := Nat.mul_le_mul_right _ hk
  rw [Nat.add_mul, Nat.one_mul] at hm
  subst hv
  exact ⟨g, _, cap, c, rfl, e3, fun i hi => by
    rw [h1.cellAt _ (by omega), e1, List.getElem?_append_right (by omega), e2, show k * size + i - k * size = i by omega, List.getElem?_append_left hi, List.getElem?_eq_getElem hi], fun w => ⟨rfl, Fk, e5 hk, fun b hb => by rw [e4]; simp [hb]⟩⟩
end Go.Proofs.Ytfigcfajkilhiaa
namespace Go.Proofs.Ytfigcfajkilhiaa
open Go.RowKit
theorem cellW {w wr : World} {b o : Nat} {u : Value} (hy : ∃ y, wr = ext w y) (hb : b < w.heap.size) (h : w.cell? ⟨b, o, none⟩ = some u) : wr.cell? ⟨b, o, none⟩ = some u := by
  obtain ⟨y, rfl⟩ := hy
  rw [cell_ext hb]; exact h
theorem ltW {w wr : World} {b : Nat} (hy : ∃ y, wr = ext w y) (hb : b < w.heap.size) : b < wr.heap.size := Nat.lt_of_lt_of_le hb (size_of_ext hy)
end Go.Proofs.Ytfigcfajkilhiaa
namespace Go.Proofs.Ytfigcfajkilhiaa
open Go.RowKit
abbrev At := ByteArray × List Int
abbrev vAt : VE At := vP 1 vS (vSl 1 vI)
abbrev sAt : SE At := sP 1 sS (sSl 3 1 sI)
abbrev vAts : VE (List At) := vSl 2 vAt
abbrev sAts : SE (List At) := sSl 81 2 sAt
theorem sAt_v {w : World} (c : List Value) (d : At) (F : List Nat) (h : sAt w c d F) : vAt w c d := sP_v sS_v (sSl_v sI_v) c d F h
theorem sAts_v {w : World} (c : List Value) (d : List At) (F : List Nat) (h : sAts w c d F) : vAts w c d := sSl_v sAt_v c d F h
def cAt (x : At) : Nat := x.1.size + x.2.length
def BAts (d : List At) : Prop := d.length ≤ 1048576 ∧ (d.map cAt).sum ≤ 1048576
theorem BAts.each {d : List At} (h : BAts d) : ∀ x ∈ d, x.1.size ≤ 1048576 ∧ x.2.length ≤ 1048576 := fun x hx => by
  have h1 := sum_each (c := cAt) hx
  have h2 := h.2
  unfold cAt at h1 h2
  omega
theorem RV.atA {w : World} {A : Option Addr} {d : List At} {k : Nat} (h : RV 2 vAt w A d) (hk : k < d.length) : ∃ b o A' c', A = some ⟨b, o, none⟩ ∧ b < w.heap.size ∧ w.cell? ⟨b, o + k * 2, none⟩ = some (.string d[k].1) ∧ w.cell? ⟨b, o + k * 2 + 1, none⟩ = some (.slice A' d[k].2.length c') ∧ RI w A' d[k].2 := by
  obtain ⟨b, o, h1, h2, c, hc, hr, c0, c1, e, _, hs, A', c', rfl, hv⟩ := h.get hk
  simp only [vS] at hs
  subst hs e
  exact ⟨b, o, A', _, h1, h2, by simpa using hr 0 (by simp), by simpa using hr 1 (by simp), hv⟩
theorem vAts_get {w : World} {A : Option Addr} {n c : Nat} {d : List At} (h : vAts w [.slice A n c] d) : n = d.length ∧ RV 2 vAt w A d := by
  obtain ⟨A', c', e, h⟩ := h
  injection e with e
  injection e with e1 e2 e3
  subst e1
  exact ⟨e2, h⟩
theorem tA : SlT Try.prog 53 81 2 40 (.agg #[.string ⟨#[]⟩, .slice none 0 0]) := ⟨Try.underlying53, by kernel_rfl, rfl, by omega⟩
end Go.Proofs.Ytfigcfajkilhiaa
namespace Go.Proofs.Ytfigcfajkilhiaa
open Go.RowKit
abbrev vTb : VE Td := vP 1 vS vRel
abbrev sTb : SE Td := sP 1 sS sRel
theorem sTb_v {w : World} (c : List Value) (d : Td) (F : List Nat) (h : sTb w c d F) : vTb w c d := sP_v sS_v sRel_v c d F h
def cTb (x : Td) : Nat := x.1.size + (x.2.2.length + (x.2.2.map List.length).sum)
def BDb (d : Dbd) : Prop := (d.length ≤ 1048576 ∧ (d.map cTb).sum ≤ 1048576) ∧ ∀ x ∈ d, I64 x.2.1
theorem BDb.each {d : Dbd} (h : BDb d) : ∀ x ∈ d, x.1.size ≤ 1048576 ∧ BRel x.2 := fun x hx => by
  have h1 := sum_each (c := cTb) hx
  have h2 := h.1.2
  unfold cTb at h1 h2
  exact ⟨by omega, h.2 x hx, by omega, by omega⟩
theorem RV.atT {w : World} {A : Option Addr} {d : Dbd} {k : Nat} (h : RV 3 vTb w A d) (hk : k < d.length) : ∃ b o A' c', A = some ⟨b, o, none⟩ ∧ b < w.heap.size ∧ w.cell? ⟨b, o + k * 3, none⟩ = some (.string d[k].1) ∧ w.cell? ⟨b, o + k * 3 + 1, none⟩ = some (.int .i64 d[k].2.1) ∧ w.cell? ⟨b, o + k * 3 + 2, none⟩ = some (.slice A' d[k].2.2.length c') ∧ vRel w [.int .i64 d[k].2.1, .slice A' d[k].2.2.length c'] d[k].2 := by
  obtain ⟨b, o, h1, h2, c, hc, hr, c0, c1, e, _, hs, hv⟩ := h.get hk
  obtain ⟨A', c', rfl⟩ := vRel_shape hv
  simp only [vS] at hs
  subst hs e
  exact ⟨b, o, A', c', h1, h2, by simpa using hr 0 (by simp), by simpa using hr 1 (by simp), by simpa using hr 2 (by simp), hv⟩
theorem sTb_form {w : World} {v0 v1 v2 : Value} {d : Td} {F : List Nat} (h : sTb w [v0, v1, v2] d F) : ∃ A c, v0 = .string d.1 ∧ v1 = .int .i64 d.2.1 ∧ v2 = .slice A d.2.2.length c ∧ sRel w [v1, v2] d.2 F := by
  obtain ⟨c0, c1, F0, F1, e0, h0, ⟨h1, f0⟩, h3, e4⟩ := h
  subst h1 f0 e4
  simp only [List.cons_append, List.nil_append, List.cons.injEq] at e0
  obtain ⟨rfl, rfl⟩ := e0
  obtain ⟨A, c, rfl, rfl, _⟩ := sRel_form h3
  exact ⟨A, c, rfl, rfl, rfl, by simpa using h3⟩
theorem sTb_mk {w : World} {s : ByteArray} {v1 v2 : Value} {r : Rd} {F : List Nat} (h : sRel w [v1, v2] r F) : sTb w [.string s, v1, v2] (s, r) F := by
  have := sP_mk (E0 := sS) (E1 := sRel) (w := w) (u := .string s) (d := (s, r)) ⟨rfl, rfl⟩ h
  simpa using this
theorem sTb_list {w : World} {c : List Value} {d : Td} {F : List Nat} (h : sTb w c d F) : ∃ A n, c = [.string d.1, .int .i64 d.2.1, .slice A d.2.2.length n] := by
  obtain ⟨c0, c1, F0, F1, e0, h0, ⟨h1, f0⟩, h3, e4⟩ := h
  subst h1
  obtain ⟨A, n, rfl⟩ := vRel_shape (sRel_v _ _ _ h3)
  exact ⟨A, n, e0⟩
theorem tTb : SlT Try.prog 27 108 3 48 (.agg #[.string ⟨#[]⟩, .int .i64 0, .slice none 0 0]) := ⟨Try.underlying27, by kernel_rfl, rfl, by omega⟩
theorem bx1 {w : World} {B : Nat} {u : Value} (h : BoxAt w B #[u]) : B < w.heap.size ∧ w.cell? ⟨B, 0, none⟩ = some u ∧ ∀ j, w.frozen? ⟨B, j, none⟩ = false := ⟨h.1, h.2.1 0, h.2.2⟩
theorem BoxAt.set10 {w : World} {B : Nat} {a u : Value} (h : BoxAt w B #[a]) : BoxAt (w.setCell ⟨B, 0, none⟩ u) B #[u] := h.setJ (j := 0) (by simp)
end Go.Proofs.Ytfigcfajkilhiaa
