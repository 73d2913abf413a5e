/- Contracts of functions that the statement reaches. -/
import Derived.Test.YtbjpkfgkmilkdaaL03
namespace Go.Proofs.Ytbjpkfgkmilkdaa
open Go.RowKit
section
variable {α : Type} {E : SE α} {w : World}
theorem elems_ix : ∀ {vs : List Value} {ds : List α} {F : List Nat}, elems 1 E w vs ds F → ∃ Fs : List (List Nat), Fs.length = ds.length ∧ vs.length = ds.length ∧ F = Fs.flatten ∧ ∀ i (h : i < ds.length), E w [vs.getD i undef] ds[i] (Fs.getD i [])
  | _, [], _, ⟨h1, h2⟩ => by subst h1 h2; exact ⟨[], rfl, rfl, rfl, fun i h => absurd h (by simp)⟩
  | _, d :: ds, _, ⟨c, vs', F1, F2, h1, h2, h3, h4, h5⟩ => by
    obtain ⟨Fs, e1, e2, e3, e4⟩ := elems_ix h4
    obtain ⟨u, rfl⟩ := List.length_eq_one_iff.1 h2
    subst h1 h5 e3
    refine ⟨F1 :: Fs, by simp [e1], by simp [e2], by simp, fun i h => ?_⟩
    rcases i with _ | i
    · simpa using h3
    · simpa using e4 i (by simpa using h)
theorem elems_xi : ∀ {vs : List Value} {ds : List α} {Fs : List (List Nat)}, Fs.length = ds.length → vs.length = ds.length → (∀ i (h : i < ds.length), E w [vs.getD i undef] ds[i] (Fs.getD i [])) → elems 1 E w vs ds Fs.flatten
  | [], [], [], _, _, _ => ⟨rfl, rfl⟩
  | v :: vs, d :: ds, F :: Fs, h1, h2, h3 => ⟨[v], vs, F, Fs.flatten, rfl, rfl, h3 0 (by simp), elems_xi (by simpa using h1) (by simpa using h2) fun i h => h3 (i + 1) (by simpa using h), rfl⟩
theorem flat_nodup {Fs : List (List Nat)} : Fs.flatten.Nodup ↔ (∀ i, (Fs.getD i []).Nodup) ∧ ∀ i j, i ≠ j → ∀ b ∈ Fs.getD i [], b ∉ Fs.getD j [] := by
  unfold List.Nodup
  rw [List.pairwise_flatten, List.pairwise_iff_getElem]
  constructor
  · rintro ⟨h1, h2⟩
    refine ⟨fun i => ?_, fun i j hij b hb hb2 => ?_⟩
    · by_cases hi : i < Fs.length
      · rw [List.getD_eq_getElem?_getD, List.getElem?_eq_getElem hi]
        exact h1 _ (List.getElem_mem hi)
      · rw [List.getD_eq_getElem?_getD, List.getElem?_eq_none (by omega)]
        exact List.Pairwise.nil
    · by_cases hi : i < Fs.length
      · by_cases hj : j < Fs.length
        · rw [List.getD_eq_getElem?_getD, List.getElem?_eq_getElem hi] at hb
          rw [List.getD_eq_getElem?_getD, List.getElem?_eq_getElem hj] at hb2
          rcases Nat.lt_or_gt_of_ne hij with h | h
          · exact h2 i j hi hj h b hb b hb2 rfl
          · exact h2 j i hj hi h b hb2 b hb rfl
        · rw [List.getD_eq_getElem?_getD, List.getElem?_eq_none (l := Fs) (i := j) (by omega)] at hb2
          simp at hb2
      · rw [List.getD_eq_getElem?_getD, List.getElem?_eq_none (l := Fs) (i := i) (by omega)] at hb
        simp at hb
  · rintro ⟨h1, h2⟩
    refine ⟨fun l hl => ?_, fun i j hi hj hij x hx y hy e => ?_⟩
    · obtain ⟨i, hi, rfl⟩ := List.getElem_of_mem hl
      have := h1 i
      rwa [List.getD_eq_getElem?_getD, List.getElem?_eq_getElem hi] at this
    · subst e
      refine h2 i j (by omega) x ?_ ?_
      · rwa [List.getD_eq_getElem?_getD, List.getElem?_eq_getElem hi]
      · rwa [List.getD_eq_getElem?_getD, List.getElem?_eq_getElem hj]
theorem mem_flat {Fs : List (List Nat)} {b : Nat} : b ∈ Fs.flatten ↔ ∃ i, b ∈ Fs.getD i [] := by
  rw [List.mem_flatten]
  constructor
  · rintro ⟨l, hl, hb⟩
    obtain ⟨i, hi, rfl⟩ := List.getElem_of_mem hl
    exact ⟨i, by rwa [List.getD_eq_getElem?_getD, List.getElem?_eq_getElem hi]⟩
  · rintro ⟨i, hb⟩
    by_cases hi : i < Fs.length
    · rw [List.getD_eq_getElem?_getD, List.getElem?_eq_getElem hi] at hb
      exact ⟨_, List.getElem_mem hi, hb⟩
    · rw [List.getD_eq_getElem?_getD, List.getElem?_eq_none (by omega)] at hb
      simp at hb
end
section
variable {α : Type} {te : Nat} {E : SE α} [SMono E] {w : World} {ds : List α} {F : List Nat} {g n cap : Nat}
omit [SMono E] in
theorem SV.ix (h : SV te 1 E w (.slice (some ⟨g, 0, none⟩) n cap) ds F) : n = ds.length ∧ ∃ (vs : List Value) (Fs : List (List Nat)), Fs.length = ds.length ∧ vs.length = ds.length ∧ F = g :: Fs.flatten ∧ w.ownsRow 0 te 1 (.slice (some ⟨g, 0, none⟩) ds.length cap) ds.length vs ∧ (∀ i (h : i < ds.length), E w [vs.getD i undef] ds[i] (Fs.getD i [])) ∧ (∀ i, i < ds.length → w.cell? ⟨g, i, none⟩ = some (vs.getD i undef)) ∧ (∀ j, w.frozen? ⟨g, j, none⟩ = false) ∧ g < w.heap.size := by
  obtain ⟨_, _, e0, _, _⟩ := h.form
  injection e0 with _ e0 _
  subst e0
  obtain ⟨vs, F2, h1, h2, rfl⟩ := h
  obtain ⟨Fs, e1, e2, rfl, e4⟩ := elems_ix h2
  refine ⟨rfl, vs, Fs, e1, e2, rfl, h1, e4, fun i hi => ?_, fun j => h1.frozenAt j, (h1.lt g rfl).2⟩
  rw [h1.cellAt i (by omega), List.getD_eq_getElem?_getD, List.getElem?_eq_getElem (by omega)]
  rfl
omit [SMono E] in
theorem SV.xi {vs : List Value} {Fs : List (List Nat)} (h1 : Fs.length = ds.length) (h2 : vs.length = ds.length) (h3 : w.ownsRow 0 te 1 (.slice (some ⟨g, 0, none⟩) ds.length cap) ds.length vs) (h4 : ∀ i (h : i < ds.length), E w [vs.getD i undef] ds[i] (Fs.getD i [])) :
    SV te 1 E w (.slice (some ⟨g, 0, none⟩) ds.length cap) ds (g :: Fs.flatten) := ⟨vs, Fs.flatten, h3, elems_xi h1 h2 h4, rfl⟩
theorem getD_set2 {β : Type} {l : List β} {p k i : Nat} {x y d : β} (hp : p < l.length) (hk : k < l.length) : ((l.set p x).set k y).getD i d = if i = k then y else if i = p then x else l.getD i d := by
  simp only [List.getD_eq_getElem?_getD, List.getElem?_set]
  by_cases h1 : i = k
  · subst h1
    simp [hk]
  · rw [if_neg (fun e => h1 e.symm), if_neg h1]
    by_cases h2 : i = p
    · subst h2
      simp [hp]
    · rw [if_neg (fun e => h2 e.symm), if_neg h2]
theorem SV.swap (h : SV te 1 E w (.slice (some ⟨g, 0, none⟩) n cap) ds F) (hN : F.Nodup) {p k : Nat} (hp : p < ds.length) (hk : k < ds.length) {vp vk : Value} (hvp : w.cell? ⟨g, p, none⟩ = some vp) (hvk : w.cell? ⟨g, k, none⟩ = some vk) :
    ∃ F2, SV te 1 E ((w.setCell ⟨g, p, none⟩ vk).setCell ⟨g, k, none⟩ vp) (.slice (some ⟨g, 0, none⟩) n cap) ((ds.set p ds[k]).set k ds[p]) F2 ∧ F2.Nodup ∧ (∀ b ∈ F2, b ∈ F) ∧ Chg [g] w ((w.setCell ⟨g, p, none⟩ vk).setCell ⟨g, k, none⟩ vp) := by
  obtain ⟨rfl, vs, Fs, e1, e2, rfl, h1, h3, h4, _, hg⟩ := h.ix
  rw [h4 p hp] at hvp
  rw [h4 k hk] at hvk
  injection hvp with hvp
  injection hvk with hvk
  subst hvp hvk
  obtain ⟨o1, g1⟩ := h1.stored p (vs.getD k undef)
  obtain ⟨o2, g2⟩ := o1.stored k (vs.getD p undef)
  have hC : Chg [g] w ((w.setCell ⟨g, p, none⟩ (vs.getD k undef)).setCell ⟨g, k, none⟩ (vs.getD p undef)) := (Chg.ofGrown g1 fun k hk => by simpa using hk.symm).trans (Chg.ofGrown (F := [g]) g2 fun k hk => by simpa using hk.symm) (fun x hx => .inl hx)
  rw [List.nodup_cons, flat_nodup] at hN
  obtain ⟨n1, n2, n3⟩ := hN
  have hlen : ((ds.set p ds[k]).set k ds[p]).length = ds.length := by simp
  refine ⟨g :: ((Fs.set p (Fs.getD k [])).set k (Fs.getD p [])).flatten, ?_, ?_, ?_, hC⟩
  · have := SV.xi (w := (w.setCell ⟨g, p, none⟩ (vs.getD k undef)).setCell ⟨g, k, none⟩ (vs.getD p undef)) (E := E) (te := te) (g := g) (cap := cap) (ds := (ds.set p ds[k]).set k ds[p]) (vs := (vs.set p (vs.getD k undef)).set k (vs.getD p undef)) (Fs := (Fs.set p (Fs.getD k [])).set k (Fs.getD p [])) (by simp [e1]) (by simp [e2]) (by rw [hlen]; exact o2) ?_
    · rwa [hlen] at this
    · intro i hi
      rw [hlen] at hi
      have kp : ∀ j (hj : j < ds.length), E ((w.setCell ⟨g, p, none⟩ (vs.getD k undef)).setCell ⟨g, k, none⟩ (vs.getD p undef)) [vs.getD j undef] ds[j] (Fs.getD j []) := fun j hj => SMono.keep (h3 j hj) fun b hb => hC.block b (SMono.lt (h3 j hj) b hb) fun e => n1 (mem_flat.2 ⟨j, by rw [← List.mem_singleton.1 e]; exact hb⟩)
      rw [getD_set2 (by omega) (by omega), getD_set2 (by omega) (by omega)]
      have ed : ((ds.set p ds[k]).set k ds[p])[i]'(by simpa using hi) = if i = k then ds[p] else if i = p then ds[k] else ds[i] := by
        simp only [List.getElem_set]
        by_cases a1 : i = k
        · subst a1; simp
        · rw [if_neg (fun e => a1 e.symm), if_neg a1]
          by_cases a2 : i = p
          · subst a2; simp
          · rw [if_neg (fun e => a2 e.symm), if_neg a2]
      rw [ed]
      by_cases a1 : i = k
      · subst a1
        simp only [if_pos]
        exact kp p hp
      · simp only [if_neg a1]
        by_cases a2 : i = p
        · subst a2
          simp only [if_pos]
          exact kp k hk
        · simp only [if_neg a2]
          exact kp i hi
  · rw [List.nodup_cons, flat_nodup]
    refine ⟨fun hm => ?_, fun i => ?_, fun i j hij b hb hb2 => ?_⟩
    · obtain ⟨i, hi⟩ := mem_flat.1 hm
      rw [getD_set2 (by omega) (by omega)] at hi
      split at hi
      · exact n1 (mem_flat.2 ⟨_, hi⟩)
      · split at hi
        · exact n1 (mem_flat.2 ⟨_, hi⟩)
        · exact n1 (mem_flat.2 ⟨_, hi⟩)
    · rw [getD_set2 (by omega) (by omega)]
      split
      · exact n2 _
      · split
        · exact n2 _
        · exact n2 _
    · have key : ∀ i, ∃ s, ((Fs.set p (Fs.getD k [])).set k (Fs.getD p [])).getD i [] = Fs.getD s [] ∧ s = (if i = k then p else if i = p then k else i) := fun i => by
        rw [getD_set2 (by omega) (by omega)]
        by_cases a1 : i = k
        · exact ⟨p, by simp [a1], by simp [a1]⟩
        · by_cases a2 : i = p
          · refine ⟨k, ?_, ?_⟩
            · rw [if_neg a1, if_pos a2]
            · rw [if_neg a1, if_pos a2]
          · exact ⟨i, by simp [a1, a2], by simp [a1, a2]⟩
      obtain ⟨s, hs, es⟩ := key i
      obtain ⟨t, ht, et⟩ := key j
      rw [hs] at hb
      rw [ht] at hb2
      refine n3 s t ?_ b hb hb2
      intro e
      rw [es, et] at e
      apply hij
      split at e <;> split at e <;> (try split at e) <;> (try split at e) <;> omega
  · intro b hb
    rcases List.mem_cons.1 hb with h | h
    · simp [h]
    · obtain ⟨i, hi⟩ := mem_flat.1 h
      refine List.mem_cons_of_mem _ (mem_flat.2 ?_)
      rw [getD_set2 (by omega) (by omega)] at hi
      split at hi
      · exact ⟨_, hi⟩
      · split at hi
        · exact ⟨_, hi⟩
        · exact ⟨_, hi⟩
omit [SMono E] in
theorem SV.apart (h : SV te 1 E w (.slice (some ⟨g, 0, none⟩) n cap) ds F) (hN : F.Nodup) {p i : Nat} (hp : p < ds.length) (hi : i < ds.length) (hne : i ≠ p) :
    ∃ vp vi Gp Gi, w.cell? ⟨g, p, none⟩ = some vp ∧ w.cell? ⟨g, i, none⟩ = some vi ∧ E w [vp] ds[p] Gp ∧ E w [vi] ds[i] Gi ∧ (∀ b ∈ Gp, b ∉ Gi) ∧ (∀ b ∈ Gp, b ∈ F) ∧ (∀ b ∈ Gi, b ∈ F) ∧ g ∉ Gp ∧ g ∉ Gi := by
  obtain ⟨rfl, vs, Fs, e1, e2, rfl, h1, h3, h4, _, hg⟩ := h.ix
  rw [List.nodup_cons, flat_nodup] at hN
  obtain ⟨n1, n2, n3⟩ := hN
  exact ⟨_, _, _, _, h4 p hp, h4 i hi, h3 p hp, h3 i hi, n3 p i (fun e => hne e.symm), fun b hb => List.mem_cons_of_mem _ (mem_flat.2 ⟨_, hb⟩), fun b hb => List.mem_cons_of_mem _ (mem_flat.2 ⟨_, hb⟩), fun e => n1 (mem_flat.2 ⟨_, e⟩), fun e => n1 (mem_flat.2 ⟨_, e⟩)⟩
end
end Go.Proofs.Ytbjpkfgkmilkdaa
