/- Contracts of functions that the statement reaches. -/
import Derived.Test.YtfigcfajkilhiaaJ01
import Derived.Test.YtfigcfajkilhiaaRows
namespace Go.Proofs.Ytfigcfajkilhiaa
open Go.RowKit
section
variable {α : Type} {te size : Nat} {E : SE α} {w : World} {v : Value} {ds : List α} {F : List Nat}
theorem elems_upd {c' : List Value} {d' : α} {Fk : List Nat} {w' : World} : ∀ {vs : List Value} {ds : List α} {F : List Nat} {k : Nat} (_ : elems size E w vs ds F) (_ : k < ds.length),
    ∃ c vs1 vs2 F1 F2 Fk, vs = vs1 ++ (c ++ vs2) ∧ vs1.length = k * size ∧ c.length = size ∧ F = F1 ++ (Fk ++ F2) ∧ (∀ (h : k < ds.length), E w c ds[k] Fk) ∧ elems size E w vs1 (ds.take k) F1 ∧ elems size E w vs2 (ds.drop (k + 1)) F2
  | _, d :: ds, _, 0, ⟨c, vs', F1, F2, h1, h2, h3, h4, h5⟩, _ => ⟨c, [], vs', [], F2, F1, by simpa using h1, by simp, h2, by simpa using h5, fun _ => h3, ⟨rfl, rfl⟩, by simpa using h4⟩
  | _, d :: ds, _, k + 1, ⟨c0, vs', F0, F9, h1, h2, h3, h4, h5⟩, hk => by
    obtain ⟨c, vs1, vs2, F1, F2, Fk, e1, e2, e3, e4, e5, e6, e7⟩ := elems_upd (c' := c') (d' := d') (Fk := Fk) (w' := w') h4 (k := k) (by simpa using hk)
    refine ⟨c, c0 ++ vs1, vs2, F0 ++ F1, F2, Fk, by rw [h1, e1]; simp, by rw [List.length_append, h2, e2, Nat.add_mul]; omega, e3, by rw [h5, e4]; simp, fun h => by simpa using e5 (by simpa using h), ?_, by simpa using e7⟩
    exact ⟨c0, vs1, F0, F1, rfl, h2, h3, e6, rfl⟩
theorem elems_join {vs1 c vs2 : List Value} {ds1 ds2 : List α} {d : α} {F1 Fk F2 : List Nat} (h1 : elems size E w vs1 ds1 F1) (hc : c.length = size) (hE : E w c d Fk) (h2 : elems size E w vs2 ds2 F2) :
    elems size E w (vs1 ++ (c ++ vs2)) (ds1 ++ d :: ds2) (F1 ++ (Fk ++ F2)) := elems_append h1 ⟨c, vs2, Fk, F2, rfl, hc, hE, h2, rfl⟩
theorem set_split {ds : List α} {k : Nat} (h : k < ds.length) (d : α) : ds.set k d = ds.take k ++ d :: ds.drop (k + 1) := by
  rw [List.set_eq_take_append_cons_drop, if_pos h]
theorem SV.at [SMono E] (h : SV te size E w v ds F) (hN : F.Nodup) {k : Nat} (hk : k < ds.length) : ∃ g cap c Fk, v = .slice (some ⟨g, 0, none⟩) ds.length cap ∧ g < w.heap.size ∧ g ∈ F ∧ g ∉ Fk ∧ (∀ b ∈ Fk, b ∈ F) ∧ Fk.Nodup ∧ c.length = size ∧
    (∀ i (hi : i < c.length), w.cell? ⟨g, k * size + i, none⟩ = some c[i]) ∧ (∀ j, w.frozen? ⟨g, j, none⟩ = false) ∧ E w c ds[k] Fk ∧
    (∀ w' d', E w' c d' Fk → Chg Fk w w' → SV te size E w' v (ds.set k d') F) ∧
    (∀ j u d', j < size → E w (c.set j u) d' Fk → SV te size E (w.setCell ⟨g, k * size + j, none⟩ u) v (ds.set k d') F ∧ Chg [g] w (w.setCell ⟨g, k * size + j, none⟩ u)) := by
  obtain ⟨g, cap, hv, hgF, _, _⟩ := h.block (by intro e; subst e; simp at hk)
  obtain ⟨vs, F2, h1, h2, h3⟩ := h
  obtain ⟨c, vs1, vs2, G1, G2, Fk, e1, e2, e3, e4, e5, e6, e7⟩ := elems_upd (c' := []) (d' := ds[k]) (Fk := []) (w' := w) h2 hk
  have hfp : fpOf v = [g] := by rw [hv]; rfl
  rw [hfp] at h3
  subst h3 e4
  have hN' := hN
  rw [List.singleton_append, List.nodup_cons, List.nodup_append, List.nodup_append] at hN'
  obtain ⟨n1, n2, ⟨n3, n4, n5⟩, n6⟩ := hN'
  have hgk : g ∉ Fk := fun hm => n1 (by simp [hm])
  have hlt := (h1.lt g (by rw [hv]; rfl)).2
  have hm : (k + 1) * size ≤ ds.length * size := Nat.mul_le_mul_right _ hk
  rw [Nat.add_mul, Nat.one_mul] at hm
  have hlen := elems_length h2
  refine ⟨g, cap, c, Fk, hv, hlt, by simp, hgk, fun b hb => by simp [hb], n3, e3, fun i hi => ?_, fun j => ?_, e5 hk, fun w' d' hE hC => ?_, fun j u d' hj hE => ?_⟩
  · subst hv
    rw [h1.cellAt _ (by omega), e1, List.getElem?_append_right (by omega), e2, show k * size + i - k * size = i by omega, List.getElem?_append_left hi, List.getElem?_eq_getElem hi]
  · subst hv
    exact h1.frozenAt j
  · refine ⟨vs, G1 ++ (Fk ++ G2), ?_, ?_, by rw [hfp]⟩
    · rw [List.length_set]
      refine ownsRow_keepB h1 fun b hb => hC.block b ?_ ?_
      · rw [hfp] at hb; rw [List.mem_singleton.1 hb]; exact hlt
      · rw [hfp] at hb; rw [List.mem_singleton.1 hb]; exact hgk
    · rw [e1, set_split hk]
      refine elems_join (elems_keep e6 fun b hb => hC.block b (elems_lt e6 b hb) ?_) e3 hE (elems_keep e7 fun b hb => hC.block b (elems_lt e7 b hb) ?_)
      · exact fun hf => n6 b hb b (by simp [hf]) rfl
      · exact fun hf => n5 b hf b hb rfl
  · subst hv
    obtain ⟨h4, h5⟩ := h1.stored (k * size + j) u
    have hC : Chg [g] w (w.setCell ⟨g, k * size + j, none⟩ u) := Chg.ofGrown h5 fun k hk => by simpa using hk.symm
    have hkp : ∀ b, b ∈ G1 ++ (Fk ++ G2) → (w.setCell ⟨g, k * size + j, none⟩ u).heap[b]? = w.heap[b]? := fun b hb => by
      refine hC.block b (elems_lt h2 b hb) ?_
      intro e
      rw [List.mem_singleton.1 e] at hb
      exact n1 hb
    refine ⟨⟨vs.set (k * size + j) u, G1 ++ (Fk ++ G2), by rw [List.length_set]; exact h4, ?_, by rw [hfp]⟩, hC⟩
    have ev : vs.set (k * size + j) u = vs1 ++ (c.set j u ++ vs2) := by
      rw [e1, List.set_append_right _ _ (by omega), e2, show k * size + j - k * size = j by omega, List.set_append_left _ _ (by omega)]
    rw [ev, set_split hk]
    exact elems_join (elems_keep e6 fun b hb => hkp b (by simp [hb])) (by rw [List.length_set]; exact e3) (SMono.keep hE fun b hb => hkp b (by simp [hb])) (elems_keep e7 fun b hb => hkp b (by simp [hb]))
def Fill (te size : Nat) (E : SE α) (w : World) (v : Value) (n : Nat) (zs : List Value) (xs : List α) (k : Nat) (F : List Nat) : Prop :=
  ∃ vs F1, w.ownsRow 0 te size v n (vs ++ (List.replicate (n - k) zs).flatten) ∧ elems size E w vs (xs.take k) F1 ∧ F = fpOf v ++ F1
theorem Fill.done {n : Nat} {zs : List Value} {xs : List α} {k : Nat} (h : Fill te size E w v n zs xs k F) (hn : xs.length = n) (hk : n ≤ k) : SV te size E w v xs F := by
  obtain ⟨vs, F1, h1, h2, h3⟩ := h
  rw [show n - k = 0 by omega, List.replicate_zero, List.flatten_nil, List.append_nil] at h1
  rw [List.take_of_length_le (by omega)] at h2
  exact ⟨vs, F1, by rw [hn]; exact h1, h2, h3⟩
theorem Fill.toExt [SMono E] {n : Nat} {zs : List Value} {xs : List α} {k : Nat} {w' : World} (h : Fill te size E w v n zs xs k F) (hx : ∃ y, w' = ext w y) : Fill te size E w' v n zs xs k F := by
  obtain ⟨y, rfl⟩ := hx
  obtain ⟨vs, F1, h1, h2, rfl⟩ := h
  have hb := below_ext w y
  exact ⟨vs, F1, ownsRow_keepB h1 (fun b hb' => hb.block b (h1.lt b (mem_fpOf.1 hb')).2), elems_keep h2 (fun b hb' => hb.block b (elems_lt h2 b hb')), rfl⟩
theorem Fill.lt [SMono E] {n : Nat} {zs : List Value} {xs : List α} {k : Nat} (h : Fill te size E w v n zs xs k F) : ∀ b ∈ F, b < w.heap.size := by
  obtain ⟨vs, F1, h1, h2, rfl⟩ := h
  intro b hb
  rcases List.mem_append.1 hb with h | h
  · exact (h1.lt b (mem_fpOf.1 h)).2
  · exact elems_lt h2 b h
theorem Fill.cell {n cap : Nat} {g : Nat} {zs : List Value} {xs : List α} {k : Nat} (h : Fill te size E w (.slice (some ⟨g, 0, none⟩) n cap) n zs xs k F) {j : Nat} (hj : j < n * size) : (∃ u, w.cell? ⟨g, j, none⟩ = some u) ∧ w.frozen? ⟨g, j, none⟩ = false ∧ g < w.heap.size := by
  obtain ⟨vs, F2, h1, h2, _⟩ := h
  refine ⟨?_, h1.frozenAt j, (h1.lt g rfl).2⟩
  rw [h1.cellAt j hj]
  have := h1.1
  exact ⟨_, List.getElem?_eq_getElem (by omega)⟩
theorem Fill.put [SMono E] {n cap g : Nat} {zs c : List Value} {xs : List α} {k : Nat} {Fk : List Nat} {w' : World} (h : Fill te size E w (.slice (some ⟨g, 0, none⟩) n cap) n zs xs k F) (hk : k < xs.length) (hn : xs.length = n) (hc : c.length = size)
    (hE : E w c xs[k] Fk) (hN : (F ++ Fk).Nodup) (hC : Chg [g] w w')
    (hr : ∀ vs rest : List Value, vs.length = k * size → w.ownsRow 0 te size (.slice (some ⟨g, 0, none⟩) n cap) n (vs ++ (zs ++ rest)) → w'.ownsRow 0 te size (.slice (some ⟨g, 0, none⟩) n cap) n (vs ++ (c ++ rest))) :
    Fill te size E w' (.slice (some ⟨g, 0, none⟩) n cap) n zs xs (k + 1) (F ++ Fk) := by
  obtain ⟨vs, F1, h1, h2, rfl⟩ := h
  have hg : g ∉ F1 ∧ g ∉ Fk := by
    rw [show fpOf (.slice (some ⟨g, 0, none⟩) n cap) = [g] from rfl, List.append_assoc, List.singleton_append, List.nodup_cons] at hN
    exact ⟨fun h => hN.1 (by simp [h]), fun h => hN.1 (by simp [h])⟩
  have hl := elems_length h2
  rw [List.length_take, Nat.min_eq_left (by omega)] at hl
  rw [show n - k = (n - (k + 1)) + 1 by omega, List.replicate_succ, List.flatten_cons] at h1
  refine ⟨vs ++ c, F1 ++ Fk, by rw [List.append_assoc]; exact hr _ _ hl h1, ?_, by simp⟩
  rw [List.take_succ_eq_append_getElem hk]
  refine elems_append (elems_keep h2 fun b hb => hC.block b (elems_lt h2 b hb) ?_) (elems_one hc (SMono.keep hE fun b hb => hC.block b (SMono.lt hE b hb) ?_))
  · intro e; rw [List.mem_singleton.1 e] at hb; exact hg.1 hb
  · intro e; rw [List.mem_singleton.1 e] at hb; exact hg.2 hb
end
section
variable {α : Type} {te : Nat} {w : World} {F : List Nat} {n cap g k : Nat} {xs : List α} {Fk : List Nat}
end
section
variable {P : Program} (w : World)
end
theorem nodup_more {F G : List Nat} {n : Nat} (h1 : F.Nodup) (h2 : G.Nodup) (h3 : ∀ b ∈ F, b < n) (h4 : ∀ b ∈ G, n ≤ b) : (F ++ G).Nodup :=
  List.nodup_append.2 ⟨h1, h2, fun a ha b hb e => by have := h3 a ha; have := h4 b hb; omega⟩
end Go.Proofs.Ytfigcfajkilhiaa
namespace Go.Proofs.Ytfigcfajkilhiaa
open Go.RowKit
def marksR (k : Int) (n : Nat) : List (Int × Int) := (List.range n).map fun (i : Nat) => (k + 2 * (i : Int), k + 2 * (i : Int) + 1)
@[simp] theorem marksR_length (k : Int) (n : Nat) : (marksR k n).length = n := by simp [marksR]
theorem marksR_get {k : Int} {n j : Nat} (h : j < (marksR k n).length) : (marksR k n)[j] = (k + 2 * (j : Int), k + 2 * (j : Int) + 1) := by simp [marksR]
end Go.Proofs.Ytfigcfajkilhiaa
namespace Go.Proofs.Ytfigcfajkilhiaa
open Go.RowKit
section
variable {α : Type}
theorem sum_each {c : α → Nat} : ∀ {xs : List α} {x : α}, x ∈ xs → c x ≤ (xs.map c).sum
  | y :: xs, x, h => by
    rw [List.map_cons, List.sum_cons]
    rcases List.mem_cons.1 h with e | e
    · subst e; omega
    · have := sum_each (c := c) e
      omega
def mkN (mk : Int → α → α × Int) : Int → List α → List α × Int
  | k, [] => ([], k)
  | k, x :: xs => ((mk k x).1 :: (mkN mk (mk k x).2 xs).1, (mkN mk (mk k x).2 xs).2)
@[simp] theorem mkN_length (mk : Int → α → α × Int) : ∀ (xs : List α) (k : Int), (mkN mk k xs).1.length = xs.length
  | [], _ => rfl
  | x :: xs, k => by simp [mkN, mkN_length mk xs]
end
end Go.Proofs.Ytfigcfajkilhiaa
namespace Go.Proofs.Ytfigcfajkilhiaa
open Go.RowKit
theorem OD.toExt {α : Type} {E : SE α} [SMono E] {w w' : World} {cs : List Value} {d : α} {F : List Nat} (h : E w cs d F) (hx : ∃ y, w' = ext w y) : E w' cs d F := by
  obtain ⟨y, rfl⟩ := hx
  exact SMono.keep h fun b hb => (below_ext w y).block b (SMono.lt h b hb)
theorem OD.chg {α : Type} {E : SE α} [SMono E] {w w' : World} {cs : List Value} {d : α} {F G : List Nat} (h : E w cs d F) (hc : Chg G w w') (hd : ∀ b ∈ F, b ∉ G) : E w' cs d F := SMono.keep h fun b hb => hc.block b (SMono.lt h b hb) (hd b hb)
theorem VD.toExt {α : Type} {V : VE α} [VMono V] {w w' : World} {cs : List Value} {d : α} (h : V w cs d) (hx : ∃ y, w' = ext w y) : V w' cs d := by
  obtain ⟨y, rfl⟩ := hx
  exact VMono.ext h
def BSS {α : Type} (d : List (List α)) : Prop := d.length ≤ 1048576 ∧ (d.map List.length).sum ≤ 1048576
theorem BSS.each {α : Type} {d : List (List α)} (h : BSS d) : ∀ x ∈ d, x.length ≤ 1048576 := fun _ hx => Nat.le_trans (sum_each (c := List.length) hx) h.2
theorem BSS.big {α : Type} {d : List (List α)} (h : BSS d) : ∀ x ∈ d, x.length ≤ 1000000000 := fun x hx => Nat.le_trans (h.each x hx) (by omega)
abbrev vII : VE (List (List Int)) := vSl 1 (vSl 1 vI)
abbrev sII : SE (List (List Int)) := sSl 48 1 (sSl 3 1 sI)
theorem sII_v {w : World} (c : List Value) (d : List (List Int)) (F : List Nat) (h : sII w c d F) : vII w c d := sSl_v (sSl_v sI_v) c d F h
theorem vII_get {w : World} {A : Option Addr} {n c : Nat} {d : List (List Int)} (h : vII w [.slice A n c] d) : n = d.length ∧ RII w A d := by
  obtain ⟨A', c', e, h⟩ := h
  injection e with e
  injection e with e1 e2 e3
  subst e1
  exact ⟨e2, h⟩
theorem sII_form {w : World} {v : Value} {d : List (List Int)} {F : List Nat} (h : sII w [v] d F) : ∃ A c, v = .slice A d.length c := by
  obtain ⟨v', e, h⟩ := h
  injection e with e
  subst e
  obtain ⟨A, c, e, _⟩ := h.form
  exact ⟨A, c, e⟩
end Go.Proofs.Ytfigcfajkilhiaa
namespace Go.Proofs.Ytfigcfajkilhiaa
open Go.RowKit
abbrev Rd := Int × List (List Int)
abbrev VRd := List Int × Rd
abbrev vRel : VE Rd := vP 1 vI vII
abbrev sRel : SE Rd := sP 1 sI sII
theorem sRel_v {w : World} (c : List Value) (d : Rd) (F : List Nat) (h : sRel w c d F) : vRel w c d := sP_v sI_v sII_v c d F h
def BRel (d : Rd) : Prop := I64 d.1 ∧ BSS d.2
theorem vRel_shape {w : World} {c : List Value} {d : Rd} (h : vRel w c d) : ∃ A a, c = [.int .i64 d.1, .slice A d.2.length a] := by
  obtain ⟨c0, c1, e0, h0, h1, A2, d2, rfl, k2⟩ := h
  simp only [vI] at h1
  subst h1
  exact ⟨_, _, e0⟩
theorem vRel_get {w : World} {A : Option Addr} {n c : Nat} {z : Int} {d : Rd} (h : vRel w [.int .i64 z, .slice A n c] d) : z = d.1 ∧ vII w [.slice A n c] d.2 := by
  obtain ⟨c0, c1, e0, h0, h1, A2, d2, rfl, k2⟩ := h
  simp only [vI] at h1
  subst h1
  simp only [List.cons_append, List.nil_append, List.cons.injEq, Value.slice.injEq, and_true, Value.int.injEq, true_and] at e0
  obtain ⟨q0, q1, q2, q3⟩ := e0
  subst q0 q1 q2 q3
  exact ⟨rfl, _, _, rfl, k2⟩
theorem sRel_form {w : World} {v0 v1 : Value} {d : Rd} {F : List Nat} (h : sRel w [v0, v1] d F) : ∃ A c, v0 = .int .i64 d.1 ∧ v1 = .slice A d.2.length c ∧ sII w [v1] d.2 F := by
  obtain ⟨c0, c1, F0, F1, e0, h0, ⟨h1, f0⟩, h3, e4⟩ := h
  subst h1 f0 e4
  simp only [List.cons_append, List.nil_append, List.cons.injEq] at e0
  obtain ⟨rfl, rfl⟩ := e0
  obtain ⟨A, c, rfl⟩ := sII_form h3
  exact ⟨A, c, rfl, rfl, by simpa using h3⟩
theorem sRel_mk {w : World} {v1 : Value} {z : Int} {rows : List (List Int)} {F : List Nat} (h : sII w [v1] rows F) : sRel w [.int .i64 z, v1] (z, rows) F := by
  have := sP_mk (E0 := sI) (E1 := sII) (w := w) (u := .int .i64 z) (d := (z, rows)) ⟨rfl, rfl⟩ h
  simpa using this
abbrev vVR : VE VRd := vP 1 (vSl 1 vI) vRel
abbrev sVR : SE VRd := sP 1 (sSl 3 1 sI) sRel
theorem sVR_v {w : World} (c : List Value) (d : VRd) (F : List Nat) (h : sVR w c d F) : vVR w c d := sP_v (sSl_v sI_v) sRel_v c d F h
def BVR (d : VRd) : Prop := d.1.length ≤ 1048576 ∧ BRel d.2
theorem vVR_get {w : World} {A B : Option Addr} {n a m b : Nat} {z : Int} {d : VRd} (h : vVR w [.slice A n a, .int .i64 z, .slice B m b] d) : RI w A d.1 ∧ vRel w [.int .i64 z, .slice B m b] d.2 ∧ d.1.length ≤ a := by
  obtain ⟨c0, c1, e0, h0, ⟨A', a', rfl, k⟩, h1⟩ := h
  obtain ⟨B', b', rfl⟩ := vRel_shape h1
  simp only [List.cons_append, List.nil_append, List.cons.injEq, Value.slice.injEq, and_true, Value.int.injEq, true_and] at e0
  obtain ⟨⟨q1, q2, q3⟩, q4, q5, q6, q7⟩ := e0
  subst q1 q3 q4 q5 q6 q7
  exact ⟨k, h1, by omega⟩
theorem sVR_form {w : World} {v0 v1 v2 : Value} {d : VRd} {F : List Nat} (h : sVR w [v0, v1, v2] d F) : ∃ A a B b, v0 = .slice A d.1.length a ∧ v1 = .int .i64 d.2.1 ∧ v2 = .slice B d.2.2.length b := by
  obtain ⟨c0, c1, F0, F1, e0, h0, ⟨u, rfl, h1⟩, h2, e4⟩ := h
  obtain ⟨A, a, rfl, _⟩ := h1.form
  obtain ⟨B, b, hb⟩ := vRel_shape (sRel_v _ _ _ h2)
  subst hb
  simp only [List.cons_append, List.nil_append, List.cons.injEq, and_true] at e0
  obtain ⟨rfl, rfl, rfl⟩ := e0
  exact ⟨A, a, B, b, rfl, rfl, rfl⟩
end Go.Proofs.Ytfigcfajkilhiaa
namespace Go.Proofs.Ytfigcfajkilhiaa
open Go.RowKit
def cmpI (a b : Int) : Int := if a < b then -1 else if b < a then 1 else 0
def cmpL : List Int → List Int → Int
  | [], [] => 0
  | [], _ :: _ => -1
  | _ :: _, [] => 1
  | x :: xs, y :: ys => if x = y then cmpL xs ys else cmpI x y
theorem cmpI_zero {a b : Int} : cmpI a b = 0 ↔ a = b := by unfold cmpI; split <;> (try split) <;> omega
theorem cmpL_zero : ∀ {xs ys : List Int}, cmpL xs ys = 0 ↔ xs = ys
  | [], [] => by simp [cmpL]
  | [], _ :: _ => by simp [cmpL]
  | _ :: _, [] => by simp [cmpL]
  | x :: xs, y :: ys => by
    rw [cmpL]
    split
    · rename_i h
      subst h
      rw [cmpL_zero]
      simp
    · rename_i h
      rw [cmpI_zero]
      simp [h]
theorem cmpL_bd : ∀ (xs ys : List Int), -1 ≤ cmpL xs ys ∧ cmpL xs ys ≤ 1
  | [], [] => by simp [cmpL]
  | [], _ :: _ => by simp [cmpL]
  | _ :: _, [] => by simp [cmpL]
  | x :: xs, y :: ys => by
    rw [cmpL]
    split
    · exact cmpL_bd xs ys
    · unfold cmpI; split <;> (try split) <;> omega
theorem cmpL_step {xs ys : List Int} {k : Nat} (h : k < xs.length) (h' : k < ys.length) (e : xs[k] = ys[k]) : cmpL (xs.drop k) (ys.drop k) = cmpL (xs.drop (k + 1)) (ys.drop (k + 1)) := by
  rw [List.drop_eq_getElem_cons h, List.drop_eq_getElem_cons h', cmpL, if_pos e]
theorem cmpL_stop {xs ys : List Int} {k : Nat} (h : k < xs.length) (h' : k < ys.length) (e : ¬ xs[k] = ys[k]) : cmpL (xs.drop k) (ys.drop k) = cmpI xs[k] ys[k] := by
  rw [List.drop_eq_getElem_cons h, List.drop_eq_getElem_cons h', cmpL, if_neg e]
theorem cmpL_end {xs ys : List Int} {k : Nat} (hx : k ≤ xs.length) (hy : k ≤ ys.length) (h : ¬ (k < xs.length ∧ k < ys.length)) : cmpL (xs.drop k) (ys.drop k) = cmpI xs.length ys.length := by
  by_cases h1 : k < xs.length
  · have h2 : ys.length ≤ k := by omega
    rw [List.drop_eq_getElem_cons h1, List.drop_eq_nil_of_le h2, cmpL]
    unfold cmpI
    rw [if_neg (by omega), if_pos (by omega)]
  · rw [List.drop_eq_nil_of_le (show xs.length ≤ k by omega)]
    by_cases h2 : k < ys.length
    · rw [List.drop_eq_getElem_cons h2, cmpL]
      unfold cmpI
      rw [if_pos (by omega)]
    · rw [List.drop_eq_nil_of_le (show ys.length ≤ k by omega), cmpL]
      unfold cmpI
      rw [if_neg (by omega), if_neg (by omega)]
set_option maxHeartbeats 1000000 in
theorem specCompareRows_any {A A' : Option Addr} {c c' : Nat} {xs ys : List Int} {w : World} (hx : xs.length ≤ 1000000000) (h1 : RI w A xs) (hy : ys.length ≤ 1000000000) (h2 : RI w A' ys) :
    Calls Try.prog 120 #[.slice A xs.length c, .slice A' ys.length c'] w fun e w' => e = .returned (.int .i64 (cmpL xs ys)) ∧ ∃ y, w' = ext w y := by
  go_enter Try.func120, Try.ntmps120
  go_wp2
  go_loopw [5] (fun i wr => ∃ k : Nat, i = .int .i64 k ∧ k ≤ xs.length ∧ k ≤ ys.length ∧ cmpL (xs.drop k) (ys.drop k) = cmpL xs ys ∧ ∃ y, wr = ext w y) (fun i _ => xs.length - (intOf i).toNat)
  case atStart => exact ⟨0, rfl, by omega, by omega, by simp, refl_ext w⟩
  case round =>
    obtain ⟨k, rfl, hk, hk2, ht, hw⟩ := hrel
    have Ht := Lib.hid ht
    clear ht
    by_cases hlt : k < xs.length
    · by_cases hlt2 : k < ys.length
      · obtain ⟨b, o, rfl, hb, hc⟩ := (h1.toExt hw).atI hlt
        obtain ⟨b', o', rfl, hb', hc'⟩ := (h2.toExt hw).atI hlt2
        by_cases he : xs[k] = ys[k]
        · have He := Lib.hid ((cmpL_step hlt hlt2 he).symm.trans Ht.out)
          have q1 : ¬ xs[k] < ys[k] := by omega
          have q2 : ¬ ys[k] < xs[k] := by omega
          clear he
          go_wp2
          refine wp_region_ext (by kernel_rfl) (by kernel_rfl) ?_
          repeat (go_big_quiet_step (fail))
          refine wpQuiet_nil ?_
          rintro _ ⟨z, rfl⟩
          have hb2 := lt_ext (x := z) hb
          have hb3 := lt_ext (x := z) hb'
          go_wp2
          refine wp_region_ext (by kernel_rfl) (by kernel_rfl) ?_
          repeat (go_big_quiet_step (fail))
          refine wpQuiet_nil ?_
          rintro _ ⟨z2, rfl⟩
          go_wp2
          exact ⟨⟨k + 1, by go_num, by omega, by omega, He.out, (by refine x'z ?_; repeat (with_reducible (first | exact x'a _ _ | exact x'b _ | exact x'c (by assumption) | refine x'd ?_ (by assumption) | refine x'e ?_ _ | refine x'f ?_ _ | refine x'g ?_ | refine x'h ?_ ?_ _ | refine x'i ?_ _ | refine x'j ?_ | refine x'k ?_ _ | refine x'l ?_ _ _ | refine x'm ?_ | assumption | (refine x'n ?_; omega) | omega)))⟩, by simp [intOf]; omega⟩
        · have He := Lib.hid ((cmpL_stop hlt hlt2 he).symm.trans Ht.out)
          by_cases q1 : xs[k] < ys[k]
          · have HE := Lib.hid (show cmpL xs ys = -1 by rw [← He.out]; unfold cmpI; rw [if_pos q1])
            clear he
            go_wp2
            refine wp_region_ext (by kernel_rfl) (by kernel_rfl) ?_
            repeat (go_big_quiet_step (fail))
            refine wpQuiet_nil ?_
            rintro _ ⟨z, rfl⟩
            go_wp2
            go_ret
            exact ⟨by rw [HE.out]; rfl, (by refine x'z ?_; repeat (with_reducible (first | exact x'a _ _ | exact x'b _ | exact x'c (by assumption) | refine x'd ?_ (by assumption) | refine x'e ?_ _ | refine x'f ?_ _ | refine x'g ?_ | refine x'h ?_ ?_ _ | refine x'i ?_ _ | refine x'j ?_ | refine x'k ?_ _ | refine x'l ?_ _ _ | refine x'm ?_ | assumption | (refine x'n ?_; omega) | omega)))⟩
          · have q2 : ys[k] < xs[k] := by omega
            have HE := Lib.hid (show cmpL xs ys = 1 by rw [← He.out]; unfold cmpI; rw [if_neg q1, if_pos q2])
            clear he
            go_wp2
            refine wp_region_ext (by kernel_rfl) (by kernel_rfl) ?_
            repeat (go_big_quiet_step (fail))
            refine wpQuiet_nil ?_
            rintro _ ⟨z, rfl⟩
            have hb2 := lt_ext (x := z) hb
            have hb3 := lt_ext (x := z) hb'
            go_wp2
            refine wp_region_ext (by kernel_rfl) (by kernel_rfl) ?_
            repeat (go_big_quiet_step (fail))
            refine wpQuiet_nil ?_
            rintro _ ⟨z2, rfl⟩
            go_wp2
            go_ret
            exact ⟨by rw [HE.out]; rfl, (by refine x'z ?_; repeat (with_reducible (first | exact x'a _ _ | exact x'b _ | exact x'c (by assumption) | refine x'd ?_ (by assumption) | refine x'e ?_ _ | refine x'f ?_ _ | refine x'g ?_ | refine x'h ?_ ?_ _ | refine x'i ?_ _ | refine x'j ?_ | refine x'k ?_ _ | refine x'l ?_ _ _ | refine x'm ?_ | assumption | (refine x'n ?_; omega) | omega)))⟩
      · have He := Lib.hid ((cmpL_end hk hk2 (by omega)).symm.trans Ht.out)
        have HE := Lib.hid (show cmpL xs ys = 1 by rw [← He.out]; unfold cmpI; rw [if_neg (by omega), if_pos (by omega)])
        have q1 : ¬ (xs.length : Int) < ys.length := by omega
        have q2 : (ys.length : Int) < xs.length := by omega
        go_wp2
        go_ret
        exact ⟨by rw [HE.out]; rfl, hw⟩
    · have He := Lib.hid ((cmpL_end hk hk2 (by omega)).symm.trans Ht.out)
      by_cases hlt2 : k < ys.length
      · have HE := Lib.hid (show cmpL xs ys = -1 by rw [← He.out]; unfold cmpI; rw [if_pos (by omega)])
        have q1 : (xs.length : Int) < ys.length := by omega
        go_wp2
        go_ret
        exact ⟨by rw [HE.out]; rfl, hw⟩
      · have HE := Lib.hid (show cmpL xs ys = 0 by rw [← He.out]; unfold cmpI; rw [if_neg (by omega), if_neg (by omega)])
        have q1 : ¬ (xs.length : Int) < ys.length := by omega
        have q2 : ¬ (ys.length : Int) < xs.length := by omega
        go_wp2
        go_ret
        exact ⟨by rw [HE.out]; rfl, hw⟩
end Go.Proofs.Ytfigcfajkilhiaa
namespace Go.Proofs.Ytfigcfajkilhiaa
open Go.RowKit
theorem quietEj {P : Program} {f : FuncId} {args : Array Value} {w y : World} {m n : Int}
    (h : Calls P f args (ext w y) fun e w' => e = .returned (.int .i64 m) ∧ ∃ z, w' = ext (ext w y) z) (hc : m = n) : Calls P f args (ext w y) fun e w' => e = .returned (.int .i64 n) ∧ ∃ z, w' = ext w z := by
  subst hc; exact quietE h
set_option maxHeartbeats 4000000 in
theorem specEqualRelations_any {A A' : Option Addr} {c c' : Nat} {d d' : Rd} {w : World} (hb : BRel d) (h : vRel w [.int .i64 d.1, .slice A d.2.length c] d) (hb' : BRel d') (h' : vRel w [.int .i64 d'.1, .slice A' d'.2.length c'] d') :
    Calls Try.prog 48 #[.agg #[.int .i64 d.1, .slice A d.2.length c], .agg #[.int .i64 d'.1, .slice A' d'.2.length c']] w fun e w' => e = .returned (.bool (decide (d = d'))) ∧ ∃ y, w' = ext w y := by
  have r1 := (vII_get (vRel_get h).2).2
  have s1 := (vII_get (vRel_get h').2).2
  have b1 := hb.2
  have p1 := hb'.2
  have HD := Lib.hid (show decide (d = d') = (decide (d.1 = d'.1) && decide (d.2 = d'.2)) by
    rw [Bool.eq_iff_iff]
    simp [Prod.ext_iff])
  obtain ⟨z, rows⟩ := d
  obtain ⟨z', rows'⟩ := d'
  dsimp only at r1 s1 b1 p1 HD ⊢
  have B1 := Lib.hid b1.big
  have P1' := Lib.hid p1.big
  have m1 : rows.length ≤ 1000000000 := Nat.le_trans b1.1 (by omega)
  have m2 : rows'.length ≤ 1000000000 := Nat.le_trans p1.1 (by omega)
  obtain ⟨t1, ht1⟩ : ∃ t, decide (z = z') = t := ⟨_, rfl⟩
  obtain ⟨t2, ht2⟩ : ∃ t, decide (rows = rows') = t := ⟨_, rfl⟩
  have D2 := Lib.hid ht2
  have hq0 : (z == z') = t1 := by rw [← ht1]; rfl
  have hq : (z != z') = !t1 := by rw [← ht1]; by_cases q : z = z' <;> simp [q]
  have HE := Lib.hid (show decide ((z, rows) = (z', rows')) = (t1 && t2) by rw [HD.out, ht1, ht2])
  clear h h' hb hb' b1 p1 ht1 ht2 HD
  cases t1 with
  | false =>
    go_enter Try.func48, Try.ntmps48
    go_wp2
    go_ret
    exact ⟨by rw [HE.out]; rfl, (by refine x'z ?_; repeat (with_reducible (first | exact x'a _ _ | exact x'b _ | exact x'c (by assumption) | refine x'd ?_ (by assumption) | refine x'e ?_ _ | refine x'f ?_ _ | refine x'g ?_ | refine x'h ?_ ?_ _ | refine x'i ?_ _ | refine x'j ?_ | refine x'k ?_ _ | refine x'l ?_ _ _ | refine x'm ?_ | assumption | (refine x'n ?_; omega) | omega)))⟩
  | true =>
    by_cases hl : rows.length = rows'.length
    · have hn : ((rows.length : Int) != (rows'.length : Int)) = false := by simp [hl]
      have hl2 : rows'.length ≤ rows.length := by omega
      have hl3 : rows.length ≤ rows'.length := by omega
      have HL := Lib.hid hl
      clear hl
      go_enter Try.func48, Try.ntmps48
      go_upto_region 1 with fail
      refine wp_name ?_
      intro W hW
      have xW : ∃ y, W = ext w y := by rw [hW.out]; exact (by refine x'z ?_; repeat (with_reducible (first | exact x'a _ _ | exact x'b _ | exact x'c (by assumption) | refine x'd ?_ (by assumption) | refine x'e ?_ _ | refine x'f ?_ _ | refine x'g ?_ | refine x'h ?_ ?_ _ | refine x'i ?_ _ | refine x'j ?_ | refine x'k ?_ _ | refine x'l ?_ _ _ | refine x'm ?_ | assumption | (refine x'n ?_; omega) | omega)))
      have BW0 : BoxAt W (w.heap.size) #[.int .i64 z, .slice A rows.length c] := by rw [hW.out]; refine ⟨?_, fun j => ?_, fun j => ?_⟩ <;> go_simp
      obtain ⟨lW0, bW0, fW0⟩ := BW0
      have cW0_0 : W.cell? ⟨w.heap.size, 0, none⟩ = some (.int .i64 z) := bW0 0
      have cW0_1 : W.cell? ⟨w.heap.size, 1, none⟩ = some (.slice A rows.length c) := bW0 1
      have BW1 : BoxAt W (w.heap.size + 1) #[.int .i64 z', .slice A' rows'.length c'] := by rw [hW.out]; refine ⟨?_, fun j => ?_, fun j => ?_⟩ <;> go_simp
      obtain ⟨lW1, bW1, fW1⟩ := BW1
      have cW1_0 : W.cell? ⟨w.heap.size + 1, 0, none⟩ = some (.int .i64 z') := bW1 0
      have cW1_1 : W.cell? ⟨w.heap.size + 1, 1, none⟩ = some (.slice A' rows'.length c') := bW1 1
      clear hW
      have PW : BoxAt W w.heap.size #[.int .i64 z, .slice A rows.length c] := ⟨lW0, bW0, fW0⟩
      have QW : BoxAt W (w.heap.size + 1) #[.int .i64 z', .slice A' rows'.length c'] := ⟨lW1, bW1, fW1⟩
      go_wp2
      clear lW0 bW0 fW0 cW0_0 cW0_1 lW1 bW1 fW1 cW1_0 cW1_1
      go_loopw [5] (fun i wr => ∃ k : Nat, i = .int .i64 k ∧ k ≤ rows.length ∧ Hid (rows.take k = rows'.take k) ∧ ∃ y, wr = ext W y) (fun i _ => rows.length - (intOf i).toNat)
      case atStart => exact ⟨0, rfl, by omega, Lib.hid (by simp), refl_ext W⟩
      case round =>
        obtain ⟨k, rfl, hk, Ht, hy⟩ := hrel
        obtain ⟨l1, a1, a1', f1⟩ := bx2 (PW.toExt hy)
        obtain ⟨l2, a2, a2', f2⟩ := bx2 (QW.toExt hy)
        by_cases hlt : k < rows.length
        · have hlt2 : k < rows'.length := by omega
          obtain ⟨b, o, A1, c1, rfl, hb, hc, hv⟩ := (r1.toExt (trans_ext xW hy)).atV hlt
          obtain ⟨b', o', A2, c2, rfl, hb', hc', hv'⟩ := (s1.toExt (trans_ext xW hy)).atV hlt2
          have lx := B1.out rows[k] (List.getElem_mem hlt)
          have ly := P1'.out rows'[k] (List.getElem_mem hlt2)
          have HS := Lib.hid (fun he : rows[k] = rows'[k] => take_snoc_eq hlt hlt2 Ht.out he)
          have HNE := Lib.hid (fun he : ¬ rows[k] = rows'[k] => ne_of_at hlt hlt2 he)
          obtain ⟨x, hx1⟩ : ∃ x, rows[k] = x := ⟨_, rfl⟩
          obtain ⟨y, hy1⟩ : ∃ y, rows'[k] = y := ⟨_, rfl⟩
          rw [hx1] at hc hv lx HS HNE
          rw [hy1] at hc' hv' ly HS HNE
          obtain ⟨C, hC⟩ : ∃ C, cmpL x y = C := ⟨_, rfl⟩
          have HC := Lib.hid hC
          have HZ := Lib.hid (show C = 0 ↔ x = y by rw [← hC]; exact cmpL_zero)
          clear hx1 hy1 hC
          by_cases h0 : C = 0
          · have HXY := Lib.hid (HZ.out.1 h0)
            subst h0
            go_wp2
            refine wp_region_ext (by kernel_rfl) (by kernel_rfl) ?_
            repeat (go_big_quiet_step ((go_at_call 120; exact quietEj (specCompareRows_any lx hv.ext ly hv'.ext) HC.out)))
            refine wpQuiet_nil ?_
            rintro _ ⟨z, rfl⟩
            go_wp2
            exact ⟨⟨k + 1, by go_num, by omega, Lib.hid (HS.out HXY.out), (by refine x'z ?_; repeat (with_reducible (first | exact x'a _ _ | exact x'b _ | exact x'c (by assumption) | refine x'd ?_ (by assumption) | refine x'e ?_ _ | refine x'f ?_ _ | refine x'g ?_ | refine x'h ?_ ?_ _ | refine x'i ?_ _ | refine x'j ?_ | refine x'k ?_ _ | refine x'l ?_ _ _ | refine x'm ?_ | assumption | (refine x'n ?_; omega) | omega)))⟩, by simp [intOf]; omega⟩
          · have h9 : (C != 0) = true := by simpa using h0
            have HN0 := Lib.hid h0
            clear h0
            go_wp2
            refine wp_region_ext (by kernel_rfl) (by kernel_rfl) ?_
            repeat (go_big_quiet_step ((go_at_call 120; exact quietEj (specCompareRows_any lx hv.ext ly hv'.ext) HC.out)))
            refine wpQuiet_nil ?_
            rintro _ ⟨z, rfl⟩
            go_wp2
            go_ret
            exact ⟨by rw [HE.out, ← D2.out, decide_eq_false (HNE.out (fun e => HN0.out (HZ.out.2 e)))]; rfl, (by refine x'z ?_; repeat (with_reducible (first | exact x'a _ _ | exact x'b _ | exact x'c (by assumption) | refine x'd ?_ (by assumption) | refine x'e ?_ _ | refine x'f ?_ _ | refine x'g ?_ | refine x'h ?_ ?_ _ | refine x'i ?_ _ | refine x'j ?_ | refine x'k ?_ _ | refine x'l ?_ _ _ | refine x'm ?_ | assumption | (refine x'n ?_; omega) | omega)))⟩
        · go_wp2
          go_ret
          exact ⟨by rw [HE.out, ← D2.out, decide_eq_true (all_eq HL.out hlt Ht.out)]; rfl, trans_ext xW hy⟩
    · have hn : ((rows.length : Int) != (rows'.length : Int)) = true := by simp; omega
      have HN := Lib.hid (show t2 = false by rw [← D2.out, decide_eq_false (by rintro rfl; exact hl rfl)])
      clear hl
      go_enter Try.func48, Try.ntmps48
      go_wp2
      go_ret
      exact ⟨by rw [HE.out, HN.out]; rfl, (by refine x'z ?_; repeat (with_reducible (first | exact x'a _ _ | exact x'b _ | exact x'c (by assumption) | refine x'd ?_ (by assumption) | refine x'e ?_ _ | refine x'f ?_ _ | refine x'g ?_ | refine x'h ?_ ?_ _ | refine x'i ?_ _ | refine x'j ?_ | refine x'k ?_ _ | refine x'l ?_ _ _ | refine x'm ?_ | assumption | (refine x'n ?_; omega) | omega)))⟩
end Go.Proofs.Ytfigcfajkilhiaa
namespace Go.Proofs.Ytfigcfajkilhiaa
open Go.ChangeShapes Go.WideShapes Go.ChangeAt Go.RowKit
def inB (x a b : Int) : Bool := decide (a ≤ x ∧ x ≤ b)
theorem inB_t {x a b : Int} (h : inB x a b = true) : a ≤ x ∧ x ≤ b := by simpa [inB] using h
theorem within_any (x a b : Int) (w : World) : Calls Try.prog 121 #[.int .i64 x, .int .i64 a, .int .i64 b] w fun e w' => e = .returned (.bool (inB x a b)) ∧ w = w' := by
  unfold inB
  by_cases h1 : a ≤ x <;> by_cases h2 : x ≤ b <;> (go_enter Try.func121, Try.ntmps121; go_wp2; go_ret; exact ⟨by simp [h1, h2], rfl⟩)
theorem l1In_any (x a b : Int) (w : World) : Calls Try.prog 123 #[.int .i64 x, .int .i64 a, .int .i64 b] w fun e w' => e = .returned (.bool (inB x a b)) ∧ w = w' := by
  unfold inB
  by_cases h1 : a ≤ x <;> by_cases h2 : x ≤ b <;> (go_enter Try.func123, Try.ntmps123; go_wp2; go_ret; exact ⟨by simp [h1, h2], rfl⟩)
def vname (v : Int) : ByteArray := if inB v 0 4 = true then (⟨#[88, 89, 90, 85, 86]⟩ : ByteArray).extract v.toNat (v.toNat + 1) else ⟨#[]⟩
theorem specVariableName_any (x : Int) (w : World) : Calls Try.prog 200 #[.int .i64 x] w fun e w' => e = .returned (.string (vname x)) ∧ w = w' := by
  unfold vname
  by_cases h : inB x 0 4 = true
  · rw [if_pos h]
    obtain ⟨h3, h4⟩ := inB_t h
    go_enter Try.func200, Try.ntmps200
    go_wp2_with (go_at_call 123; refine (l1In_any _ _ _ _).mono ?_; rintro e w' ⟨rfl, rfl⟩)
    go_ret
    exact ⟨by rw [show (x + 1).toNat = x.toNat + 1 by omega]; rfl, rfl⟩
  · rw [if_neg h]
    have h : inB x 0 4 = false := by simpa using h
    go_enter Try.func200, Try.ntmps200
    go_wp2_with (go_at_call 123; refine (l1In_any _ _ _ _).mono ?_; rintro e w' ⟨rfl, rfl⟩)
    go_ret
    exact ⟨rfl, rfl⟩
end Go.Proofs.Ytfigcfajkilhiaa
