/- Rows whose elements have memory of their own: one element changed in place, a row filled element by element. No program in it. -/
import Derived.Test.YtgehnacmgofobaaDoorApp
namespace Go.Proofs.YtgehnacmgofobaaDoor
open Go.RowKit

section
variable {α : Type} {te size : Nat} {E : SE α} {w : World} {v : Value} {ds : List α} {F : List Nat}
theorem elems_upd {c' : List Value} {d' : α} {Fk : List Nat} {w' : World} : ∀ {vs : List Value} {ds : List α} {F : List Nat} {k : Nat} (_ : elems size E w vs ds F) (_ : k < ds.length),
    ∃ c vs1 vs2 F1 F2 Fk, vs = vs1 ++ (c ++ vs2) ∧ vs1.length = k * size ∧ c.length = size ∧ F = F1 ++ (Fk ++ F2) ∧ (∀ (h : k < ds.length), E w c ds[k] Fk) ∧ elems size E w vs1 (ds.take k) F1 ∧ elems size E w vs2 (ds.drop (k + 1)) F2
  | _, d :: ds, _, 0, ⟨c, vs', F1, F2, h1, h2, h3, h4, h5⟩, _ => ⟨c, [], vs', [], F2, F1, by simpa using h1, by simp, h2, by simpa using h5, fun _ => h3, ⟨rfl, rfl⟩, by simpa using h4⟩
  | _, d :: ds, _, k + 1, ⟨c0, vs', F0, F9, h1, h2, h3, h4, h5⟩, hk => by
    obtain ⟨c, vs1, vs2, F1, F2, Fk, e1, e2, e3, e4, e5, e6, e7⟩ := elems_upd (c' := c') (d' := d') (Fk := Fk) (w' := w') h4 (k := k) (by simpa using hk)
    refine ⟨c, c0 ++ vs1, vs2, F0 ++ F1, F2, Fk, by rw [h1, e1]; simp, by rw [List.length_append, h2, e2, Nat.add_mul]; omega, e3, by rw [h5, e4]; simp, fun h => by simpa using e5 (by simpa using h), ?_, by simpa using e7⟩
    exact ⟨c0, vs1, F0, F1, rfl, h2, h3, e6, rfl⟩

theorem elems_join {vs1 c vs2 : List Value} {ds1 ds2 : List α} {d : α} {F1 Fk F2 : List Nat} (h1 : elems size E w vs1 ds1 F1) (hc : c.length = size) (hE : E w c d Fk) (h2 : elems size E w vs2 ds2 F2) :
    elems size E w (vs1 ++ (c ++ vs2)) (ds1 ++ d :: ds2) (F1 ++ (Fk ++ F2)) := elems_append h1 ⟨c, vs2, Fk, F2, rfl, hc, hE, h2, rfl⟩

theorem set_split {ds : List α} {k : Nat} (h : k < ds.length) (d : α) : ds.set k d = ds.take k ++ d :: ds.drop (k + 1) := by
  rw [List.set_eq_take_append_cons_drop, if_pos h]

/-- one element of a row whose elements have memory of their own -/
theorem SV.at [SMono E] (h : SV te size E w v ds F) (hN : F.Nodup) {k : Nat} (hk : k < ds.length) : ∃ g cap c Fk, v = .slice (some ⟨g, 0, none⟩) ds.length cap ∧ g < w.heap.size ∧ g ∈ F ∧ g ∉ Fk ∧ (∀ b ∈ Fk, b ∈ F) ∧ Fk.Nodup ∧ c.length = size ∧
    (∀ i (hi : i < c.length), w.cell? ⟨g, k * size + i, none⟩ = some c[i]) ∧ (∀ j, w.frozen? ⟨g, j, none⟩ = false) ∧ E w c ds[k] Fk ∧
    (∀ w' d', E w' c d' Fk → Chg Fk w w' → SV te size E w' v (ds.set k d') F) ∧
    (∀ j u d', j < size → E w (c.set j u) d' Fk → SV te size E (w.setCell ⟨g, k * size + j, none⟩ u) v (ds.set k d') F ∧ Chg [g] w (w.setCell ⟨g, k * size + j, none⟩ u)) := by
  obtain ⟨g, cap, hv, hgF, _, _⟩ := h.block (by intro e; subst e; simp at hk)
  obtain ⟨vs, F2, h1, h2, h3⟩ := h
  obtain ⟨c, vs1, vs2, G1, G2, Fk, e1, e2, e3, e4, e5, e6, e7⟩ := elems_upd (c' := []) (d' := ds[k]) (Fk := []) (w' := w) h2 hk
  have hfp : fpOf v = [g] := by rw [hv]; rfl
  rw [hfp] at h3
  subst h3 e4
  have hN' := hN
  rw [List.singleton_append, List.nodup_cons, List.nodup_append, List.nodup_append] at hN'
  obtain ⟨n1, n2, ⟨n3, n4, n5⟩, n6⟩ := hN'
  have hgk : g ∉ Fk := fun hm => n1 (by simp [hm])
  have hlt := (h1.lt g (by rw [hv]; rfl)).2
  have hm : (k + 1) * size ≤ ds.length * size := Nat.mul_le_mul_right _ hk
  rw [Nat.add_mul, Nat.one_mul] at hm
  have hlen := elems_length h2
  refine ⟨g, cap, c, Fk, hv, hlt, by simp, hgk, fun b hb => by simp [hb], n3, e3, fun i hi => ?_, fun j => ?_, e5 hk, fun w' d' hE hC => ?_, fun j u d' hj hE => ?_⟩
  · subst hv
    rw [h1.cellAt _ (by omega), e1, List.getElem?_append_right (by omega), e2, show k * size + i - k * size = i by omega, List.getElem?_append_left hi, List.getElem?_eq_getElem hi]
  · subst hv
    exact h1.frozenAt j
  · refine ⟨vs, G1 ++ (Fk ++ G2), ?_, ?_, by rw [hfp]⟩
    · rw [List.length_set]
      refine ownsRow_keepB h1 fun b hb => hC.block b ?_ ?_
      · rw [hfp] at hb; rw [List.mem_singleton.1 hb]; exact hlt
      · rw [hfp] at hb; rw [List.mem_singleton.1 hb]; exact hgk
    · rw [e1, set_split hk]
      refine elems_join (elems_keep e6 fun b hb => hC.block b (elems_lt e6 b hb) ?_) e3 hE (elems_keep e7 fun b hb => hC.block b (elems_lt e7 b hb) ?_)
      · exact fun hf => n6 b hb b (by simp [hf]) rfl
      · exact fun hf => n5 b hf b hb rfl
  · subst hv
    obtain ⟨h4, h5⟩ := h1.stored (k * size + j) u
    have hC : Chg [g] w (w.setCell ⟨g, k * size + j, none⟩ u) := Chg.ofGrown h5 fun k hk => by simpa using hk.symm
    have hkp : ∀ b, b ∈ G1 ++ (Fk ++ G2) → (w.setCell ⟨g, k * size + j, none⟩ u).heap[b]? = w.heap[b]? := fun b hb => by
      refine hC.block b (elems_lt h2 b hb) ?_
      intro e
      rw [List.mem_singleton.1 e] at hb
      exact n1 hb
    refine ⟨⟨vs.set (k * size + j) u, G1 ++ (Fk ++ G2), by rw [List.length_set]; exact h4, ?_, by rw [hfp]⟩, hC⟩
    have ev : vs.set (k * size + j) u = vs1 ++ (c.set j u ++ vs2) := by
      rw [e1, List.set_append_right _ _ (by omega), e2, show k * size + j - k * size = j by omega, List.set_append_left _ _ (by omega)]
    rw [ev, set_split hk]
    exact elems_join (elems_keep e6 fun b hb => hkp b (by simp [hb])) (by rw [List.length_set]; exact e3) (SMono.keep hE fun b hb => hkp b (by simp [hb])) (elems_keep e7 fun b hb => hkp b (by simp [hb]))

/-- a row made at once and filled from the left: 'zs' the cells of an element not yet filled in -/
def Fill (te size : Nat) (E : SE α) (w : World) (v : Value) (n : Nat) (zs : List Value) (xs : List α) (k : Nat) (F : List Nat) : Prop :=
  ∃ vs F1, w.ownsRow 0 te size v n (vs ++ (List.replicate (n - k) zs).flatten) ∧ elems size E w vs (xs.take k) F1 ∧ F = fpOf v ++ F1
theorem Fill.done {n : Nat} {zs : List Value} {xs : List α} {k : Nat} (h : Fill te size E w v n zs xs k F) (hn : xs.length = n) (hk : n ≤ k) : SV te size E w v xs F := by
  obtain ⟨vs, F1, h1, h2, h3⟩ := h
  rw [show n - k = 0 by omega, List.replicate_zero, List.flatten_nil, List.append_nil] at h1
  rw [List.take_of_length_le (by omega)] at h2
  exact ⟨vs, F1, by rw [hn]; exact h1, h2, h3⟩
theorem Fill.toExt [SMono E] {n : Nat} {zs : List Value} {xs : List α} {k : Nat} {w' : World} (h : Fill te size E w v n zs xs k F) (hx : ∃ y, w' = ext w y) : Fill te size E w' v n zs xs k F := by
  obtain ⟨y, rfl⟩ := hx
  obtain ⟨vs, F1, h1, h2, rfl⟩ := h
  have hb := below_ext w y
  exact ⟨vs, F1, ownsRow_keepB h1 (fun b hb' => hb.block b (h1.lt b (mem_fpOf.1 hb')).2), elems_keep h2 (fun b hb' => hb.block b (elems_lt h2 b hb')), rfl⟩
theorem Fill.lt [SMono E] {n : Nat} {zs : List Value} {xs : List α} {k : Nat} (h : Fill te size E w v n zs xs k F) : ∀ b ∈ F, b < w.heap.size := by
  obtain ⟨vs, F1, h1, h2, rfl⟩ := h
  intro b hb
  rcases List.mem_append.1 hb with h | h
  · exact (h1.lt b (mem_fpOf.1 h)).2
  · exact elems_lt h2 b h
theorem Fill.cell {n cap : Nat} {g : Nat} {zs : List Value} {xs : List α} {k : Nat} (h : Fill te size E w (.slice (some ⟨g, 0, none⟩) n cap) n zs xs k F) {j : Nat} (hj : j < n * size) : (∃ u, w.cell? ⟨g, j, none⟩ = some u) ∧ w.frozen? ⟨g, j, none⟩ = false ∧ g < w.heap.size := by
  obtain ⟨vs, F2, h1, h2, _⟩ := h
  refine ⟨?_, h1.frozenAt j, (h1.lt g rfl).2⟩
  rw [h1.cellAt j hj]
  have := h1.1
  exact ⟨_, List.getElem?_eq_getElem (by omega)⟩
/-- the k-th element put in: its cells 'c' written by stores that change block g alone -/
theorem Fill.put [SMono E] {n cap g : Nat} {zs c : List Value} {xs : List α} {k : Nat} {Fk : List Nat} {w' : World} (h : Fill te size E w (.slice (some ⟨g, 0, none⟩) n cap) n zs xs k F) (hk : k < xs.length) (hn : xs.length = n) (hc : c.length = size)
    (hE : E w c xs[k] Fk) (hN : (F ++ Fk).Nodup) (hC : Chg [g] w w')
    (hr : ∀ vs rest : List Value, vs.length = k * size → w.ownsRow 0 te size (.slice (some ⟨g, 0, none⟩) n cap) n (vs ++ (zs ++ rest)) → w'.ownsRow 0 te size (.slice (some ⟨g, 0, none⟩) n cap) n (vs ++ (c ++ rest))) :
    Fill te size E w' (.slice (some ⟨g, 0, none⟩) n cap) n zs xs (k + 1) (F ++ Fk) := by
  obtain ⟨vs, F1, h1, h2, rfl⟩ := h
  have hg : g ∉ F1 ∧ g ∉ Fk := by
    rw [show fpOf (.slice (some ⟨g, 0, none⟩) n cap) = [g] from rfl, List.append_assoc, List.singleton_append, List.nodup_cons] at hN
    exact ⟨fun h => hN.1 (by simp [h]), fun h => hN.1 (by simp [h])⟩
  have hl := elems_length h2
  rw [List.length_take, Nat.min_eq_left (by omega)] at hl
  rw [show n - k = (n - (k + 1)) + 1 by omega, List.replicate_succ, List.flatten_cons] at h1
  refine ⟨vs ++ c, F1 ++ Fk, by rw [List.append_assoc]; exact hr _ _ hl h1, ?_, by simp⟩
  rw [List.take_succ_eq_append_getElem hk]
  refine elems_append (elems_keep h2 fun b hb => hC.block b (elems_lt h2 b hb) ?_) (elems_one hc (SMono.keep hE fun b hb => hC.block b (SMono.lt hE b hb) ?_))
  · intro e; rw [List.mem_singleton.1 e] at hb; exact hg.1 hb
  · intro e; rw [List.mem_singleton.1 e] at hb; exact hg.2 hb
end

section
variable {α : Type} {te : Nat} {w : World} {F : List Nat} {n cap g k : Nat} {xs : List α} {Fk : List Nat}
theorem Fill.put1 {E : SE α} [SMono E] {z u : Value} (h : Fill te 1 E w (.slice (some ⟨g, 0, none⟩) n cap) n [z] xs k F) (hk : k < xs.length) (hn : xs.length = n) (hE : E w [u] xs[k] Fk) (hN : (F ++ Fk).Nodup) :
    Fill te 1 E (w.setCell ⟨g, k, none⟩ u) (.slice (some ⟨g, 0, none⟩) n cap) n [z] xs (k + 1) (F ++ Fk) ∧ Chg [g] w (w.setCell ⟨g, k, none⟩ u) := by
  have hC : Chg [g] w (w.setCell ⟨g, k, none⟩ u) := (Chg.refl [g] w).setCell (.inl (by simp)) u
  refine ⟨h.put hk hn (c := [u]) rfl hE hN hC fun vs rest hl ho => ?_, hC⟩
  have := (ho.stored k u).1
  rwa [List.set_append_right _ _ (by omega), show k - vs.length = 0 by omega] at this
theorem Fill.put2 {E : SE α} [SMono E] {z z' u u' : Value} (h : Fill te 2 E w (.slice (some ⟨g, 0, none⟩) n cap) n [z, z'] xs k F) (hk : k < xs.length) (hn : xs.length = n) (hE : E w [u, u'] xs[k] Fk) (hN : (F ++ Fk).Nodup) :
    Fill te 2 E ((w.setCell ⟨g, k * 2, none⟩ u).setCell ⟨g, k * 2 + 1, none⟩ u') (.slice (some ⟨g, 0, none⟩) n cap) n [z, z'] xs (k + 1) (F ++ Fk) ∧ Chg [g] w ((w.setCell ⟨g, k * 2, none⟩ u).setCell ⟨g, k * 2 + 1, none⟩ u') := by
  have hC : Chg [g] w ((w.setCell ⟨g, k * 2, none⟩ u).setCell ⟨g, k * 2 + 1, none⟩ u') := ((Chg.refl [g] w).setCell (.inl (by simp)) u).setCell (.inl (by simp)) u'
  refine ⟨h.put hk hn (c := [u, u']) rfl hE hN hC fun vs rest hl ho => ?_, hC⟩
  have := ((ho.stored (k * 2) u).1.stored (k * 2 + 1) u').1
  rwa [List.set_append_right _ _ (by omega), List.set_append_right _ _ (by omega), show k * 2 - vs.length = 0 by omega, show k * 2 + 1 - vs.length = 1 by omega] at this
theorem Fill.put3 {E : SE α} [SMono E] {z z' z'' u u' u'' : Value} (h : Fill te 3 E w (.slice (some ⟨g, 0, none⟩) n cap) n [z, z', z''] xs k F) (hk : k < xs.length) (hn : xs.length = n) (hE : E w [u, u', u''] xs[k] Fk) (hN : (F ++ Fk).Nodup) :
    Fill te 3 E (((w.setCell ⟨g, k * 3, none⟩ u).setCell ⟨g, k * 3 + 1, none⟩ u').setCell ⟨g, k * 3 + 2, none⟩ u'') (.slice (some ⟨g, 0, none⟩) n cap) n [z, z', z''] xs (k + 1) (F ++ Fk) ∧ Chg [g] w (((w.setCell ⟨g, k * 3, none⟩ u).setCell ⟨g, k * 3 + 1, none⟩ u').setCell ⟨g, k * 3 + 2, none⟩ u'') := by
  have hC : Chg [g] w (((w.setCell ⟨g, k * 3, none⟩ u).setCell ⟨g, k * 3 + 1, none⟩ u').setCell ⟨g, k * 3 + 2, none⟩ u'') := (((Chg.refl [g] w).setCell (.inl (by simp)) u).setCell (.inl (by simp)) u').setCell (.inl (by simp)) u''
  refine ⟨h.put hk hn (c := [u, u', u'']) rfl hE hN hC fun vs rest hl ho => ?_, hC⟩
  have := (((ho.stored (k * 3) u).1.stored (k * 3 + 1) u').1.stored (k * 3 + 2) u'').1
  rwa [List.set_append_right _ _ (by omega), List.set_append_right _ _ (by omega), List.set_append_right _ _ (by omega), show k * 3 - vs.length = 0 by omega, show k * 3 + 1 - vs.length = 1 by omega, show k * 3 + 2 - vs.length = 2 by omega] at this
end

section
variable {P : Program} (w : World)
/-- 'make([]T, n)', to be filled -/
theorem wpList_makeF {ops : Array Oper} {rest : List Oper} {o : Oper} {a : Act} {Q : Exit → Act → World → Prop} (hgd : o.guard = none) (l c : Operand) (t : TypeId) (hop : o.op = Op.makeSlice t l c)
    {α : Type} {E : SE α} {te size bytes : Nat} {z : Value} (hT : SlT P t te size bytes z) {n : Nat} (hl : a.eval l = .int .i64 (n : Int)) (hc : a.eval c = .int .i64 (n : Int)) (xs : List α) (hlen : n ≤ 2000000000) (hby : bytes ≤ 60000)
    (h : ∀ w', Fill te size E w' (.slice (some ⟨w.heap.size, 0, none⟩) n n) n z.cells.toList xs 0 [w.heap.size] → (∃ y, w' = ext w y) → w.heap.size < w'.heap.size → wpList P ops Q rest (a.put o.dst (.slice (some ⟨w.heap.size, 0, none⟩) n n)) w') : wpList P ops Q (o :: rest) a w := by
  obtain ⟨ht, hi, hzs, hsz⟩ := hT
  obtain ⟨i, hi, hz, hs1, hs2⟩ := info_parts hi
  have hb : i.bytes * n ≤ 281474976710656 := by rw [hs2]; exact Nat.le_trans (Nat.mul_le_mul hby hlen) (by omega)
  refine wpList_make_full w hgd l c t hop 0 te i z size ht hi hz hs1 .i64 .i64 n n n hl hc rfl rfl hb (by simp only [maxLen]; omega) (Nat.zero_le _) ?_
  intro w' h1 h2
  have hx : Chg [] w w' := Chg.ofGrown h2 fun k hk => by cases hk
  refine h w' ⟨[], [], ?_, ⟨rfl, rfl⟩, rfl⟩ (hx.isExt (refl_ext w) (by simp)) (h1.lt _ rfl).2
  rw [← hzs, toList_madeCells, hzs] at h1
  simpa using h1
end
theorem nodup_more {F G : List Nat} {n : Nat} (h1 : F.Nodup) (h2 : G.Nodup) (h3 : ∀ b ∈ F, b < n) (h4 : ∀ b ∈ G, n ≤ b) : (F ++ G).Nodup :=
  List.nodup_append.2 ⟨h1, h2, fun a ha b hb e => by have := h3 a ha; have := h4 b hb; omega⟩
end Go.Proofs.YtgehnacmgofobaaDoor
