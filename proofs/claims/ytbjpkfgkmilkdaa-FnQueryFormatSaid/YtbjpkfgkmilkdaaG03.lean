/- Contracts of functions that the statement reaches. -/
import Derived.Test.YtbjpkfgkmilkdaaG01
import Derived.Test.YtbjpkfgkmilkdaaRows
namespace Go.Proofs.Ytbjpkfgkmilkdaa
open Go.RowKit
section
variable {α : Type} {te size : Nat} {E : SE α} {w : World} {v : Value} {ds : List α} {F : List Nat}
theorem elems_upd {c' : List Value} {d' : α} {Fk : List Nat} {w' : World} : ∀ {vs : List Value} {ds : List α} {F : List Nat} {k : Nat} (_ : elems size E w vs ds F) (_ : k < ds.length),
    ∃ c vs1 vs2 F1 F2 Fk, vs = vs1 ++ (c ++ vs2) ∧ vs1.length = k * size ∧ c.length = size ∧ F = F1 ++ (Fk ++ F2) ∧ (∀ (h : k < ds.length), E w c ds[k] Fk) ∧ elems size E w vs1 (ds.take k) F1 ∧ elems size E w vs2 (ds.drop (k + 1)) F2
  | _, d :: ds, _, 0, ⟨c, vs', F1, F2, h1, h2, h3, h4, h5⟩, _ => ⟨c, [], vs', [], F2, F1, by simpa using h1, by simp, h2, by simpa using h5, fun _ => h3, ⟨rfl, rfl⟩, by simpa using h4⟩
  | _, d :: ds, _, k + 1, ⟨c0, vs', F0, F9, h1, h2, h3, h4, h5⟩, hk => by
    obtain ⟨c, vs1, vs2, F1, F2, Fk, e1, e2, e3, e4, e5, e6, e7⟩ := elems_upd (c' := c') (d' := d') (Fk := Fk) (w' := w') h4 (k := k) (by simpa using hk)
    refine ⟨c, c0 ++ vs1, vs2, F0 ++ F1, F2, Fk, by rw [h1, e1]; simp, by rw [List.length_append, h2, e2, Nat.add_mul]; omega, e3, by rw [h5, e4]; simp, fun h => by simpa using e5 (by simpa using h), ?_, by simpa using e7⟩
    exact ⟨c0, vs1, F0, F1, rfl, h2, h3, e6, rfl⟩
theorem elems_join {vs1 c vs2 : List Value} {ds1 ds2 : List α} {d : α} {F1 Fk F2 : List Nat} (h1 : elems size E w vs1 ds1 F1) (hc : c.length = size) (hE : E w c d Fk) (h2 : elems size E w vs2 ds2 F2) :
    elems size E w (vs1 ++ (c ++ vs2)) (ds1 ++ d :: ds2) (F1 ++ (Fk ++ F2)) := elems_append h1 ⟨c, vs2, Fk, F2, rfl, hc, hE, h2, rfl⟩
theorem set_split {ds : List α} {k : Nat} (h : k < ds.length) (d : α) : ds.set k d = ds.take k ++ d :: ds.drop (k + 1) := by
  rw [List.set_eq_take_append_cons_drop, if_pos h]
theorem SV.at [SMono E] (h : SV te size E w v ds F) (hN : F.Nodup) {k : Nat} (hk : k < ds.length) : ∃ g cap c Fk, v = .slice (some ⟨g, 0, none⟩) ds.length cap ∧ g < w.heap.size ∧ g ∈ F ∧ g ∉ Fk ∧ (∀ b ∈ Fk, b ∈ F) ∧ Fk.Nodup ∧ c.length = size ∧
    (∀ i (hi : i < c.length), w.cell? ⟨g, k * size + i, none⟩ = some c[i]) ∧ (∀ j, w.frozen? ⟨g, j, none⟩ = false) ∧ E w c ds[k] Fk ∧
    (∀ w' d', E w' c d' Fk → Chg Fk w w' → SV te size E w' v (ds.set k d') F) ∧
    (∀ j u d', j < size → E w (c.set j u) d' Fk → SV te size E (w.setCell ⟨g, k * size + j, none⟩ u) v (ds.set k d') F ∧ Chg [g] w (w.setCell ⟨g, k * size + j, none⟩ u)) := by
  obtain ⟨g, cap, hv, hgF, _, _⟩ := h.block (by intro e; subst e; simp at hk)
  obtain ⟨vs, F2, h1, h2, h3⟩ := h
  obtain ⟨c, vs1, vs2, G1, G2, Fk, e1, e2, e3, e4, e5, e6, e7⟩ := elems_upd (c' := []) (d' := ds[k]) (Fk := []) (w' := w) h2 hk
  have hfp : fpOf v = [g] := by rw [hv]; rfl
  rw [hfp] at h3
  subst h3 e4
  have hN' := hN
  rw [List.singleton_append, List.nodup_cons, List.nodup_append, List.nodup_append] at hN'
  obtain ⟨n1, n2, ⟨n3, n4, n5⟩, n6⟩ := hN'
  have hgk : g ∉ Fk := fun hm => n1 (by simp [hm])
  have hlt := (h1.lt g (by rw [hv]; rfl)).2
  have hm : (k + 1) * size ≤ ds.length * size := Nat.mul_le_mul_right _ hk
  rw [Nat.add_mul, Nat.one_mul] at hm
  have hlen := elems_length h2
  refine ⟨g, cap, c, Fk, hv, hlt, by simp, hgk, fun b hb => by simp [hb], n3, e3, fun i hi => ?_, fun j => ?_, e5 hk, fun w' d' hE hC => ?_, fun j u d' hj hE => ?_⟩
  · subst hv
    rw [h1.cellAt _ (by omega), e1, List.getElem?_append_right (by omega), e2, show k * size + i - k * size = i by omega, List.getElem?_append_left hi, List.getElem?_eq_getElem hi]
  · subst hv
    exact h1.frozenAt j
  · refine ⟨vs, G1 ++ (Fk ++ G2), ?_, ?_, by rw [hfp]⟩
    · rw [List.length_set]
      refine ownsRow_keepB h1 fun b hb => hC.block b ?_ ?_
      · rw [hfp] at hb; rw [List.mem_singleton.1 hb]; exact hlt
      · rw [hfp] at hb; rw [List.mem_singleton.1 hb]; exact hgk
    · rw [e1, set_split hk]
      refine elems_join (elems_keep e6 fun b hb => hC.block b (elems_lt e6 b hb) ?_) e3 hE (elems_keep e7 fun b hb => hC.block b (elems_lt e7 b hb) ?_)
      · exact fun hf => n6 b hb b (by simp [hf]) rfl
      · exact fun hf => n5 b hf b hb rfl
  · subst hv
    obtain ⟨h4, h5⟩ := h1.stored (k * size + j) u
    have hC : Chg [g] w (w.setCell ⟨g, k * size + j, none⟩ u) := Chg.ofGrown h5 fun k hk => by simpa using hk.symm
    have hkp : ∀ b, b ∈ G1 ++ (Fk ++ G2) → (w.setCell ⟨g, k * size + j, none⟩ u).heap[b]? = w.heap[b]? := fun b hb => by
      refine hC.block b (elems_lt h2 b hb) ?_
      intro e
      rw [List.mem_singleton.1 e] at hb
      exact n1 hb
    refine ⟨⟨vs.set (k * size + j) u, G1 ++ (Fk ++ G2), by rw [List.length_set]; exact h4, ?_, by rw [hfp]⟩, hC⟩
    have ev : vs.set (k * size + j) u = vs1 ++ (c.set j u ++ vs2) := by
      rw [e1, List.set_append_right _ _ (by omega), e2, show k * size + j - k * size = j by omega, List.set_append_left _ _ (by omega)]
    rw [ev, set_split hk]
    exact elems_join (elems_keep e6 fun b hb => hkp b (by simp [hb])) (by rw [List.length_set]; exact e3) (SMono.keep hE fun b hb => hkp b (by simp [hb])) (elems_keep e7 fun b hb => hkp b (by simp [hb]))
def Fill (te size : Nat) (E : SE α) (w : World) (v : Value) (n : Nat) (zs : List Value) (xs : List α) (k : Nat) (F : List Nat) : Prop :=
  ∃ vs F1, w.ownsRow 0 te size v n (vs ++ (List.replicate (n - k) zs).flatten) ∧ elems size E w vs (xs.take k) F1 ∧ F = fpOf v ++ F1
theorem Fill.done {n : Nat} {zs : List Value} {xs : List α} {k : Nat} (h : Fill te size E w v n zs xs k F) (hn : xs.length = n) (hk : n ≤ k) : SV te size E w v xs F := by
  obtain ⟨vs, F1, h1, h2, h3⟩ := h
  rw [show n - k = 0 by omega, List.replicate_zero, List.flatten_nil, List.append_nil] at h1
  rw [List.take_of_length_le (by omega)] at h2
  exact ⟨vs, F1, by rw [hn]; exact h1, h2, h3⟩
theorem Fill.toExt [SMono E] {n : Nat} {zs : List Value} {xs : List α} {k : Nat} {w' : World} (h : Fill te size E w v n zs xs k F) (hx : ∃ y, w' = ext w y) : Fill te size E w' v n zs xs k F := by
  obtain ⟨y, rfl⟩ := hx
  obtain ⟨vs, F1, h1, h2, rfl⟩ := h
  have hb := below_ext w y
  exact ⟨vs, F1, ownsRow_keepB h1 (fun b hb' => hb.block b (h1.lt b (mem_fpOf.1 hb')).2), elems_keep h2 (fun b hb' => hb.block b (elems_lt h2 b hb')), rfl⟩
theorem Fill.lt [SMono E] {n : Nat} {zs : List Value} {xs : List α} {k : Nat} (h : Fill te size E w v n zs xs k F) : ∀ b ∈ F, b < w.heap.size := by
  obtain ⟨vs, F1, h1, h2, rfl⟩ := h
  intro b hb
  rcases List.mem_append.1 hb with h | h
  · exact (h1.lt b (mem_fpOf.1 h)).2
  · exact elems_lt h2 b h
theorem Fill.cell {n cap : Nat} {g : Nat} {zs : List Value} {xs : List α} {k : Nat} (h : Fill te size E w (.slice (some ⟨g, 0, none⟩) n cap) n zs xs k F) {j : Nat} (hj : j < n * size) : (∃ u, w.cell? ⟨g, j, none⟩ = some u) ∧ w.frozen? ⟨g, j, none⟩ = false ∧ g < w.heap.size := by
  obtain ⟨vs, F2, h1, h2, _⟩ := h
  refine ⟨?_, h1.frozenAt j, (h1.lt g rfl).2⟩
  rw [h1.cellAt j hj]
  have := h1.1
  exact ⟨_, List.getElem?_eq_getElem (by omega)⟩
theorem Fill.put [SMono E] {n cap g : Nat} {zs c : List Value} {xs : List α} {k : Nat} {Fk : List Nat} {w' : World} (h : Fill te size E w (.slice (some ⟨g, 0, none⟩) n cap) n zs xs k F) (hk : k < xs.length) (hn : xs.length = n) (hc : c.length = size)
    (hE : E w c xs[k] Fk) (hN : (F ++ Fk).Nodup) (hC : Chg [g] w w')
    (hr : ∀ vs rest : List Value, vs.length = k * size → w.ownsRow 0 te size (.slice (some ⟨g, 0, none⟩) n cap) n (vs ++ (zs ++ rest)) → w'.ownsRow 0 te size (.slice (some ⟨g, 0, none⟩) n cap) n (vs ++ (c ++ rest))) :
    Fill te size E w' (.slice (some ⟨g, 0, none⟩) n cap) n zs xs (k + 1) (F ++ Fk) := by
  obtain ⟨vs, F1, h1, h2, rfl⟩ := h
  have hg : g ∉ F1 ∧ g ∉ Fk := by
    rw [show fpOf (.slice (some ⟨g, 0, none⟩) n cap) = [g] from rfl, List.append_assoc, List.singleton_append, List.nodup_cons] at hN
    exact ⟨fun h => hN.1 (by simp [h]), fun h => hN.1 (by simp [h])⟩
  have hl := elems_length h2
  rw [List.length_take, Nat.min_eq_left (by omega)] at hl
  rw [show n - k = (n - (k + 1)) + 1 by omega, List.replicate_succ, List.flatten_cons] at h1
  refine ⟨vs ++ c, F1 ++ Fk, by rw [List.append_assoc]; exact hr _ _ hl h1, ?_, by simp⟩
  rw [List.take_succ_eq_append_getElem hk]
  refine elems_append (elems_keep h2 fun b hb => hC.block b (elems_lt h2 b hb) ?_) (elems_one hc (SMono.keep hE fun b hb => hC.block b (SMono.lt hE b hb) ?_))
  · intro e; rw [List.mem_singleton.1 e] at hb; exact hg.1 hb
  · intro e; rw [List.mem_singleton.1 e] at hb; exact hg.2 hb
end
section
variable {α : Type} {te : Nat} {w : World} {F : List Nat} {n cap g k : Nat} {xs : List α} {Fk : List Nat}
end
section
variable {P : Program} (w : World)
end
theorem nodup_more {F G : List Nat} {n : Nat} (h1 : F.Nodup) (h2 : G.Nodup) (h3 : ∀ b ∈ F, b < n) (h4 : ∀ b ∈ G, n ≤ b) : (F ++ G).Nodup :=
  List.nodup_append.2 ⟨h1, h2, fun a ha b hb e => by have := h3 a ha; have := h4 b hb; omega⟩
end Go.Proofs.Ytbjpkfgkmilkdaa
namespace Go.Proofs.Ytbjpkfgkmilkdaa
open Go.RowKit
def marksR (k : Int) (n : Nat) : List (Int × Int) := (List.range n).map fun (i : Nat) => (k + 2 * (i : Int), k + 2 * (i : Int) + 1)
@[simp] theorem marksR_length (k : Int) (n : Nat) : (marksR k n).length = n := by simp [marksR]
theorem marksR_get {k : Int} {n j : Nat} (h : j < (marksR k n).length) : (marksR k n)[j] = (k + 2 * (j : Int), k + 2 * (j : Int) + 1) := by simp [marksR]
end Go.Proofs.Ytbjpkfgkmilkdaa
namespace Go.Proofs.Ytbjpkfgkmilkdaa
open Go.RowKit
section
variable {α : Type}
theorem sum_each {c : α → Nat} : ∀ {xs : List α} {x : α}, x ∈ xs → c x ≤ (xs.map c).sum
  | y :: xs, x, h => by
    rw [List.map_cons, List.sum_cons]
    rcases List.mem_cons.1 h with e | e
    · subst e; omega
    · have := sum_each (c := c) e
      omega
def mkN (mk : Int → α → α × Int) : Int → List α → List α × Int
  | k, [] => ([], k)
  | k, x :: xs => ((mk k x).1 :: (mkN mk (mk k x).2 xs).1, (mkN mk (mk k x).2 xs).2)
@[simp] theorem mkN_length (mk : Int → α → α × Int) : ∀ (xs : List α) (k : Int), (mkN mk k xs).1.length = xs.length
  | [], _ => rfl
  | x :: xs, k => by simp [mkN, mkN_length mk xs]
end
end Go.Proofs.Ytbjpkfgkmilkdaa
namespace Go.Proofs.Ytbjpkfgkmilkdaa
open Go.RowKit
theorem OD.toExt {α : Type} {E : SE α} [SMono E] {w w' : World} {cs : List Value} {d : α} {F : List Nat} (h : E w cs d F) (hx : ∃ y, w' = ext w y) : E w' cs d F := by
  obtain ⟨y, rfl⟩ := hx
  exact SMono.keep h fun b hb => (below_ext w y).block b (SMono.lt h b hb)
theorem OD.chg {α : Type} {E : SE α} [SMono E] {w w' : World} {cs : List Value} {d : α} {F G : List Nat} (h : E w cs d F) (hc : Chg G w w') (hd : ∀ b ∈ F, b ∉ G) : E w' cs d F := SMono.keep h fun b hb => hc.block b (SMono.lt h b hb) (hd b hb)
theorem VD.toExt {α : Type} {V : VE α} [VMono V] {w w' : World} {cs : List Value} {d : α} (h : V w cs d) (hx : ∃ y, w' = ext w y) : V w' cs d := by
  obtain ⟨y, rfl⟩ := hx
  exact VMono.ext h
def BSS {α : Type} (d : List (List α)) : Prop := d.length ≤ 1048576 ∧ (d.map List.length).sum ≤ 1048576
theorem BSS.each {α : Type} {d : List (List α)} (h : BSS d) : ∀ x ∈ d, x.length ≤ 1048576 := fun _ hx => Nat.le_trans (sum_each (c := List.length) hx) h.2
end Go.Proofs.Ytbjpkfgkmilkdaa
namespace Go.Proofs.Ytbjpkfgkmilkdaa
open Go.RowKit
def cmpI (a b : Int) : Int := if a < b then -1 else if b < a then 1 else 0
def cmpL : List Int → List Int → Int
  | [], [] => 0
  | [], _ :: _ => -1
  | _ :: _, [] => 1
  | x :: xs, y :: ys => if x = y then cmpL xs ys else cmpI x y
theorem cmpI_zero {a b : Int} : cmpI a b = 0 ↔ a = b := by unfold cmpI; split <;> (try split) <;> omega
theorem cmpL_zero : ∀ {xs ys : List Int}, cmpL xs ys = 0 ↔ xs = ys
  | [], [] => by simp [cmpL]
  | [], _ :: _ => by simp [cmpL]
  | _ :: _, [] => by simp [cmpL]
  | x :: xs, y :: ys => by
    rw [cmpL]
    split
    · rename_i h
      subst h
      rw [cmpL_zero]
      simp
    · rename_i h
      rw [cmpI_zero]
      simp [h]
theorem cmpL_bd : ∀ (xs ys : List Int), -1 ≤ cmpL xs ys ∧ cmpL xs ys ≤ 1
  | [], [] => by simp [cmpL]
  | [], _ :: _ => by simp [cmpL]
  | _ :: _, [] => by simp [cmpL]
  | x :: xs, y :: ys => by
    rw [cmpL]
    split
    · exact cmpL_bd xs ys
    · unfold cmpI; split <;> (try split) <;> omega
theorem cmpL_step {xs ys : List Int} {k : Nat} (h : k < xs.length) (h' : k < ys.length) (e : xs[k] = ys[k]) : cmpL (xs.drop k) (ys.drop k) = cmpL (xs.drop (k + 1)) (ys.drop (k + 1)) := by
  rw [List.drop_eq_getElem_cons h, List.drop_eq_getElem_cons h', cmpL, if_pos e]
theorem cmpL_stop {xs ys : List Int} {k : Nat} (h : k < xs.length) (h' : k < ys.length) (e : ¬ xs[k] = ys[k]) : cmpL (xs.drop k) (ys.drop k) = cmpI xs[k] ys[k] := by
  rw [List.drop_eq_getElem_cons h, List.drop_eq_getElem_cons h', cmpL, if_neg e]
theorem cmpL_end {xs ys : List Int} {k : Nat} (hx : k ≤ xs.length) (hy : k ≤ ys.length) (h : ¬ (k < xs.length ∧ k < ys.length)) : cmpL (xs.drop k) (ys.drop k) = cmpI xs.length ys.length := by
  by_cases h1 : k < xs.length
  · have h2 : ys.length ≤ k := by omega
    rw [List.drop_eq_getElem_cons h1, List.drop_eq_nil_of_le h2, cmpL]
    unfold cmpI
    rw [if_neg (by omega), if_pos (by omega)]
  · rw [List.drop_eq_nil_of_le (show xs.length ≤ k by omega)]
    by_cases h2 : k < ys.length
    · rw [List.drop_eq_getElem_cons h2, cmpL]
      unfold cmpI
      rw [if_pos (by omega)]
    · rw [List.drop_eq_nil_of_le (show ys.length ≤ k by omega), cmpL]
      unfold cmpI
      rw [if_neg (by omega), if_neg (by omega)]
set_option maxHeartbeats 400000 in
theorem sameInts_any {A A' : Option Addr} {c c' : Nat} {xs ys : List Int} {w : World} (hx : xs.length ≤ 1000000000) (h1 : RI w A xs) (hy : ys.length ≤ 1000000000) (h2 : RI w A' ys) :
    Calls Try.prog 80 #[.slice A xs.length c, .slice A' ys.length c'] w fun e w' => e = .returned (.bool (decide (xs = ys))) ∧ ∃ y, w' = ext w y := by
  by_cases hl : xs.length = ys.length
  · have hn : ((xs.length : Int) != (ys.length : Int)) = false := by simp [hl]
    have hl2 : ys.length ≤ xs.length := by omega
    have hl3 : xs.length ≤ ys.length := by omega
    have HL := Lib.hid hl
    clear hl
    go_enter Try.func80, Try.ntmps80
    go_wp2
    go_loopw [13] (fun i wr => ∃ k : Nat, i = .int .i64 k ∧ k ≤ xs.length ∧ xs.take k = ys.take k ∧ ∃ y, wr = ext w y) (fun i _ => xs.length - (intOf i).toNat)
    case atStart => exact ⟨0, rfl, by omega, by simp, refl_ext w⟩
    case round =>
      obtain ⟨k, rfl, hk, ht, hw⟩ := hrel
      have Ht := Lib.hid ht
      clear ht
      by_cases hlt : k < xs.length
      · have hlt2 : k < ys.length := by omega
        obtain ⟨b, o, rfl, hb, hc⟩ := (h1.toExt hw).atI hlt
        obtain ⟨b', o', rfl, hb', hc'⟩ := (h2.toExt hw).atI hlt2
        by_cases he : xs[k] = ys[k]
        · have He := Lib.hid he
          have hq : (xs[k] != ys[k]) = false := by simp [he]
          clear he
          go_wp2
          refine wp_region_ext (by kernel_rfl) (by kernel_rfl) ?_
          repeat (go_big_quiet_step (fail))
          refine wpQuiet_nil ?_
          rintro _ ⟨z, rfl⟩
          go_wp2
          exact ⟨⟨k + 1, by go_num, by omega, take_snoc_eq _ _ Ht.out He.out, (by refine x'z ?_; repeat (with_reducible (first | exact x'a _ _ | exact x'b _ | exact x'c (by assumption) | refine x'd ?_ (by assumption) | refine x'e ?_ _ | refine x'f ?_ _ | refine x'g ?_ | refine x'h ?_ ?_ _ | refine x'i ?_ _ | refine x'j ?_ | refine x'k ?_ _ | refine x'l ?_ _ _ | refine x'm ?_ | assumption | (refine x'n ?_; omega) | omega)))⟩, by simp [intOf]; omega⟩
        · have He := Lib.hid he
          have hq : (xs[k] != ys[k]) = true := by simp [he]
          clear he
          go_wp2
          refine wp_region_ext (by kernel_rfl) (by kernel_rfl) ?_
          repeat (go_big_quiet_step (fail))
          refine wpQuiet_nil ?_
          rintro _ ⟨z, rfl⟩
          go_wp2
          go_ret
          exact ⟨by rw [decide_eq_false (ne_of_at hlt hlt2 He.out)]; rfl, (by refine x'z ?_; repeat (with_reducible (first | exact x'a _ _ | exact x'b _ | exact x'c (by assumption) | refine x'd ?_ (by assumption) | refine x'e ?_ _ | refine x'f ?_ _ | refine x'g ?_ | refine x'h ?_ ?_ _ | refine x'i ?_ _ | refine x'j ?_ | refine x'k ?_ _ | refine x'l ?_ _ _ | refine x'm ?_ | assumption | (refine x'n ?_; omega) | omega)))⟩
      · go_wp2
        go_ret
        exact ⟨by rw [decide_eq_true (all_eq HL.out hlt Ht.out)]; rfl, hw⟩
  · have hn : ((xs.length : Int) != (ys.length : Int)) = true := by simp; omega
    go_enter Try.func80, Try.ntmps80
    go_wp2
    go_ret
    exact ⟨by rw [decide_eq_false (by rintro rfl; exact hl rfl)]; rfl, refl_ext w⟩
set_option maxHeartbeats 1000000 in
theorem specCompareRows_any {A A' : Option Addr} {c c' : Nat} {xs ys : List Int} {w : World} (hx : xs.length ≤ 1000000000) (h1 : RI w A xs) (hy : ys.length ≤ 1000000000) (h2 : RI w A' ys) :
    Calls Try.prog 79 #[.slice A xs.length c, .slice A' ys.length c'] w fun e w' => e = .returned (.int .i64 (cmpL xs ys)) ∧ ∃ y, w' = ext w y := by
  go_enter Try.func79, Try.ntmps79
  go_wp2
  go_loopw [5] (fun i wr => ∃ k : Nat, i = .int .i64 k ∧ k ≤ xs.length ∧ k ≤ ys.length ∧ cmpL (xs.drop k) (ys.drop k) = cmpL xs ys ∧ ∃ y, wr = ext w y) (fun i _ => xs.length - (intOf i).toNat)
  case atStart => exact ⟨0, rfl, by omega, by omega, by simp, refl_ext w⟩
  case round =>
    obtain ⟨k, rfl, hk, hk2, ht, hw⟩ := hrel
    have Ht := Lib.hid ht
    clear ht
    by_cases hlt : k < xs.length
    · by_cases hlt2 : k < ys.length
      · obtain ⟨b, o, rfl, hb, hc⟩ := (h1.toExt hw).atI hlt
        obtain ⟨b', o', rfl, hb', hc'⟩ := (h2.toExt hw).atI hlt2
        by_cases he : xs[k] = ys[k]
        · have He := Lib.hid ((cmpL_step hlt hlt2 he).symm.trans Ht.out)
          have q1 : ¬ xs[k] < ys[k] := by omega
          have q2 : ¬ ys[k] < xs[k] := by omega
          clear he
          go_wp2
          refine wp_region_ext (by kernel_rfl) (by kernel_rfl) ?_
          repeat (go_big_quiet_step (fail))
          refine wpQuiet_nil ?_
          rintro _ ⟨z, rfl⟩
          have hb2 := lt_ext (x := z) hb
          have hb3 := lt_ext (x := z) hb'
          go_wp2
          refine wp_region_ext (by kernel_rfl) (by kernel_rfl) ?_
          repeat (go_big_quiet_step (fail))
          refine wpQuiet_nil ?_
          rintro _ ⟨z2, rfl⟩
          go_wp2
          exact ⟨⟨k + 1, by go_num, by omega, by omega, He.out, (by refine x'z ?_; repeat (with_reducible (first | exact x'a _ _ | exact x'b _ | exact x'c (by assumption) | refine x'd ?_ (by assumption) | refine x'e ?_ _ | refine x'f ?_ _ | refine x'g ?_ | refine x'h ?_ ?_ _ | refine x'i ?_ _ | refine x'j ?_ | refine x'k ?_ _ | refine x'l ?_ _ _ | refine x'm ?_ | assumption | (refine x'n ?_; omega) | omega)))⟩, by simp [intOf]; omega⟩
        · have He := Lib.hid ((cmpL_stop hlt hlt2 he).symm.trans Ht.out)
          by_cases q1 : xs[k] < ys[k]
          · have HE := Lib.hid (show cmpL xs ys = -1 by rw [← He.out]; unfold cmpI; rw [if_pos q1])
            clear he
            go_wp2
            refine wp_region_ext (by kernel_rfl) (by kernel_rfl) ?_
            repeat (go_big_quiet_step (fail))
            refine wpQuiet_nil ?_
            rintro _ ⟨z, rfl⟩
            go_wp2
            go_ret
            exact ⟨by rw [HE.out]; rfl, (by refine x'z ?_; repeat (with_reducible (first | exact x'a _ _ | exact x'b _ | exact x'c (by assumption) | refine x'd ?_ (by assumption) | refine x'e ?_ _ | refine x'f ?_ _ | refine x'g ?_ | refine x'h ?_ ?_ _ | refine x'i ?_ _ | refine x'j ?_ | refine x'k ?_ _ | refine x'l ?_ _ _ | refine x'm ?_ | assumption | (refine x'n ?_; omega) | omega)))⟩
          · have q2 : ys[k] < xs[k] := by omega
            have HE := Lib.hid (show cmpL xs ys = 1 by rw [← He.out]; unfold cmpI; rw [if_neg q1, if_pos q2])
            clear he
            go_wp2
            refine wp_region_ext (by kernel_rfl) (by kernel_rfl) ?_
            repeat (go_big_quiet_step (fail))
            refine wpQuiet_nil ?_
            rintro _ ⟨z, rfl⟩
            have hb2 := lt_ext (x := z) hb
            have hb3 := lt_ext (x := z) hb'
            go_wp2
            refine wp_region_ext (by kernel_rfl) (by kernel_rfl) ?_
            repeat (go_big_quiet_step (fail))
            refine wpQuiet_nil ?_
            rintro _ ⟨z2, rfl⟩
            go_wp2
            go_ret
            exact ⟨by rw [HE.out]; rfl, (by refine x'z ?_; repeat (with_reducible (first | exact x'a _ _ | exact x'b _ | exact x'c (by assumption) | refine x'd ?_ (by assumption) | refine x'e ?_ _ | refine x'f ?_ _ | refine x'g ?_ | refine x'h ?_ ?_ _ | refine x'i ?_ _ | refine x'j ?_ | refine x'k ?_ _ | refine x'l ?_ _ _ | refine x'm ?_ | assumption | (refine x'n ?_; omega) | omega)))⟩
      · have He := Lib.hid ((cmpL_end hk hk2 (by omega)).symm.trans Ht.out)
        have HE := Lib.hid (show cmpL xs ys = 1 by rw [← He.out]; unfold cmpI; rw [if_neg (by omega), if_pos (by omega)])
        have q1 : ¬ (xs.length : Int) < ys.length := by omega
        have q2 : (ys.length : Int) < xs.length := by omega
        go_wp2
        go_ret
        exact ⟨by rw [HE.out]; rfl, hw⟩
    · have He := Lib.hid ((cmpL_end hk hk2 (by omega)).symm.trans Ht.out)
      by_cases hlt2 : k < ys.length
      · have HE := Lib.hid (show cmpL xs ys = -1 by rw [← He.out]; unfold cmpI; rw [if_pos (by omega)])
        have q1 : (xs.length : Int) < ys.length := by omega
        go_wp2
        go_ret
        exact ⟨by rw [HE.out]; rfl, hw⟩
      · have HE := Lib.hid (show cmpL xs ys = 0 by rw [← He.out]; unfold cmpI; rw [if_neg (by omega), if_neg (by omega)])
        have q1 : ¬ (xs.length : Int) < ys.length := by omega
        have q2 : ¬ (ys.length : Int) < xs.length := by omega
        go_wp2
        go_ret
        exact ⟨by rw [HE.out]; rfl, hw⟩
end Go.Proofs.Ytbjpkfgkmilkdaa
namespace Go.Proofs.Ytbjpkfgkmilkdaa
open Go.ChangeShapes Go.WideShapes Go.ChangeAt Go.RowKit
def inB (x a b : Int) : Bool := decide (a ≤ x ∧ x ≤ b)
theorem inB_t {x a b : Int} (h : inB x a b = true) : a ≤ x ∧ x ≤ b := by simpa [inB] using h
theorem within_any (x a b : Int) (w : World) : Calls Try.prog 76 #[.int .i64 x, .int .i64 a, .int .i64 b] w fun e w' => e = .returned (.bool (inB x a b)) ∧ w = w' := by
  unfold inB
  by_cases h1 : a ≤ x <;> by_cases h2 : x ≤ b <;> (go_enter Try.func76, Try.ntmps76; go_wp2; go_ret; exact ⟨by simp [h1, h2], rfl⟩)
theorem l1In_any (x a b : Int) (w : World) : Calls Try.prog 72 #[.int .i64 x, .int .i64 a, .int .i64 b] w fun e w' => e = .returned (.bool (inB x a b)) ∧ w = w' := by
  unfold inB
  by_cases h1 : a ≤ x <;> by_cases h2 : x ≤ b <;> (go_enter Try.func72, Try.ntmps72; go_wp2; go_ret; exact ⟨by simp [h1, h2], rfl⟩)
def vname (v : Int) : ByteArray := if inB v 0 4 = true then (⟨#[88, 89, 90, 85, 86]⟩ : ByteArray).extract v.toNat (v.toNat + 1) else ⟨#[]⟩
theorem VariableName_any (x : Int) (w : World) : Calls Try.prog 101 #[.int .i64 x] w fun e w' => e = .returned (.string (vname x)) ∧ w = w' := by
  unfold vname
  by_cases h : inB x 0 4 = true
  · rw [if_pos h]
    obtain ⟨h3, h4⟩ := inB_t h
    go_enter Try.func101, Try.ntmps101
    go_wp2_with (go_at_call 76; refine (within_any _ _ _ _).mono ?_; rintro e w' ⟨rfl, rfl⟩)
    go_ret
    exact ⟨by rw [show (x + 1).toNat = x.toNat + 1 by omega]; rfl, rfl⟩
  · rw [if_neg h]
    have h : inB x 0 4 = false := by simpa using h
    go_enter Try.func101, Try.ntmps101
    go_wp2_with (go_at_call 76; refine (within_any _ _ _ _).mono ?_; rintro e w' ⟨rfl, rfl⟩)
    go_ret
    exact ⟨rfl, rfl⟩
theorem specVariableName_any (x : Int) (w : World) : Calls Try.prog 70 #[.int .i64 x] w fun e w' => e = .returned (.string (vname x)) ∧ w = w' := by
  unfold vname
  by_cases h : inB x 0 4 = true
  · rw [if_pos h]
    obtain ⟨h3, h4⟩ := inB_t h
    go_enter Try.func70, Try.ntmps70
    go_wp2_with (go_at_call 72; refine (l1In_any _ _ _ _).mono ?_; rintro e w' ⟨rfl, rfl⟩)
    go_ret
    exact ⟨by rw [show (x + 1).toNat = x.toNat + 1 by omega]; rfl, rfl⟩
  · rw [if_neg h]
    have h : inB x 0 4 = false := by simpa using h
    go_enter Try.func70, Try.ntmps70
    go_wp2_with (go_at_call 72; refine (l1In_any _ _ _ _).mono ?_; rintro e w' ⟨rfl, rfl⟩)
    go_ret
    exact ⟨rfl, rfl⟩
end Go.Proofs.Ytbjpkfgkmilkdaa
namespace Go.Proofs.Ytbjpkfgkmilkdaa
open Go.RowKit
theorem cmpI_neg (a b : Int) : cmpI a b = - cmpI b a := by unfold cmpI; split <;> split <;> (try split) <;> omega
theorem cmpL_neg : ∀ (xs ys : List Int), cmpL xs ys = - cmpL ys xs
  | [], [] => by simp [cmpL]
  | [], _ :: _ => by simp [cmpL]
  | _ :: _, [] => by simp [cmpL]
  | x :: xs, y :: ys => by
    rw [cmpL, cmpL]
    by_cases h : x = y
    · subst h; rw [if_pos rfl, if_pos rfl]; exact cmpL_neg xs ys
    · rw [if_neg h, if_neg (fun e => h e.symm)]; exact cmpI_neg x y
theorem cmpL_trans : ∀ {xs ys zs : List Int}, cmpL xs ys < 0 → cmpL ys zs < 0 → cmpL xs zs < 0
  | [], [], _, h, _ => by simp [cmpL] at h
  | _ :: _, [], _, h, _ => by simp [cmpL] at h
  | _, _ :: _, [], _, h => by simp [cmpL] at h
  | [], _ :: _, _ :: _, _, _ => by simp [cmpL]
  | x :: xs, y :: ys, z :: zs, h, k => by
    rw [cmpL] at h k ⊢
    by_cases e : x = y
    · subst e
      rw [if_pos rfl] at h
      by_cases e2 : x = z
      · subst e2; rw [if_pos rfl] at k ⊢; exact cmpL_trans h k
      · rw [if_neg e2] at k ⊢; exact k
    · rw [if_neg e] at h
      by_cases e2 : y = z
      · subst e2; rw [if_neg e]; exact h
      · rw [if_neg e2] at k
        unfold cmpI at h k
        by_cases e3 : x = z
        · subst e3
          exfalso
          split at h <;> (try split at h) <;> split at k <;> (try split at k) <;> omega
        · rw [if_neg e3]; unfold cmpI
          split at h <;> (try split at h) <;> split at k <;> (try split at k) <;> (try omega)
theorem cmpL_self (x : List Int) : cmpL x x = 0 := cmpL_zero.2 rfl
def AscR (l : List (List Int)) : Prop := l.Pairwise fun x y => cmpL x y < 0
theorem ascR_nil : AscR [] := List.Pairwise.nil
theorem ascR_ext : ∀ {a b : List (List Int)}, AscR a → AscR b → (∀ x, x ∈ a ↔ x ∈ b) → a = b
  | [], [], _, _, _ => rfl
  | [], y :: b, _, _, h => absurd ((h y).2 (by simp)) (by simp)
  | x :: a, [], _, _, h => absurd ((h x).1 (by simp)) (by simp)
  | x :: a, y :: b, ha, hb, h => by
    unfold AscR at ha hb
    rw [List.pairwise_cons] at ha hb
    have e : x = y := by
      rcases List.mem_cons.1 ((h x).1 (by simp)) with e | e
      · exact e
      · rcases List.mem_cons.1 ((h y).2 (by simp)) with k | k
        · exact k.symm
        · have h1 := hb.1 x e
          have h2 := ha.1 y k
          rw [cmpL_neg] at h1
          omega
    subst e
    rw [ascR_ext ha.2 hb.2 fun z => ?_]
    constructor
    · intro hz
      rcases List.mem_cons.1 ((h z).1 (by simp [hz])) with k | k
      · subst k; have := ha.1 z hz; rw [cmpL_self] at this; omega
      · exact k
    · intro hz
      rcases List.mem_cons.1 ((h z).2 (by simp [hz])) with k | k
      · subst k; have := hb.1 z hz; rw [cmpL_self] at this; omega
      · exact k
def insRow (x : List Int) : List (List Int) → List (List Int)
  | [] => [x]
  | y :: l => if cmpL x y < 0 then x :: y :: l else if cmpL x y = 0 then y :: l else y :: insRow x l
def sortR (l : List (List Int)) : List (List Int) := l.foldr insRow []
theorem mem_insRow {x z : List Int} : ∀ {l : List (List Int)}, z ∈ insRow x l ↔ z = x ∨ z ∈ l
  | [] => by simp [insRow]
  | y :: l => by
    rw [insRow]
    split
    · simp
    · split
      · rename_i h
        rw [cmpL_zero] at h
        subst h
        simp
      · rw [List.mem_cons, mem_insRow, List.mem_cons]
        constructor
        · rintro (h | h | h)
          · exact .inr (.inl h)
          · exact .inl h
          · exact .inr (.inr h)
        · rintro (h | h | h)
          · exact .inr (.inl h)
          · exact .inl h
          · exact .inr (.inr h)
theorem asc_insRow {x : List Int} : ∀ {l : List (List Int)}, AscR l → AscR (insRow x l)
  | [], _ => by simp [insRow, AscR]
  | y :: l, h => by
    unfold AscR at h
    rw [List.pairwise_cons] at h
    rw [insRow]
    split
    · rename_i h1
      refine List.pairwise_cons.2 ⟨fun z hz => ?_, List.pairwise_cons.2 h⟩
      rcases List.mem_cons.1 hz with e | e
      · subst e; exact h1
      · exact cmpL_trans h1 (h.1 z e)
    · rename_i h1
      split
      · exact List.pairwise_cons.2 h
      · rename_i h2
        refine List.pairwise_cons.2 ⟨fun z hz => ?_, asc_insRow h.2⟩
        rcases mem_insRow.1 hz with e | e
        · subst e
          rw [cmpL_neg]
          have := cmpL_bd z y
          omega
        · exact h.1 z e
theorem mem_sortR {z : List Int} : ∀ {l : List (List Int)}, z ∈ sortR l ↔ z ∈ l
  | [] => by simp [sortR]
  | y :: l => by
    have := mem_sortR (z := z) (l := l)
    unfold sortR at this ⊢
    rw [List.foldr_cons, mem_insRow, List.mem_cons, this]
theorem asc_sortR : ∀ (l : List (List Int)), AscR (sortR l)
  | [] => ascR_nil
  | y :: l => by
    have := asc_sortR l
    unfold sortR at this ⊢
    rw [List.foldr_cons]
    exact asc_insRow this
theorem sortR_eq {a l : List (List Int)} (h : AscR a) (hm : ∀ x, x ∈ a ↔ x ∈ l) : a = sortR l := ascR_ext h (asc_sortR l) fun x => by rw [hm, mem_sortR]
structure MI (rows out a b : List (List Int)) : Prop where
  o : AscR out
  sa : AscR a
  sb : AscR b
  la : ∀ x ∈ out, ∀ y ∈ a, cmpL x y ≤ 0
  lb : ∀ x ∈ out, ∀ y ∈ b, cmpL x y ≤ 0
  m : ∀ x, x ∈ rows ↔ x ∈ out ∨ x ∈ a ∨ x ∈ b
structure MS (rows out a b : List (List Int)) : Prop where
  o : AscR out
  sa : AscR a
  sb : AscR b
  la : ∀ x ∈ out, ∀ y ∈ a, cmpL x y < 0
  lb : ∀ x ∈ out, ∀ y ∈ b, cmpL x y < 0
  m : ∀ x, x ∈ rows ↔ x ∈ out ∨ x ∈ a ∨ x ∈ b
theorem MI.start {rows a b : List (List Int)} (ha : a = sortR (rows.take (rows.length / 2))) (hb : b = sortR (rows.drop (rows.length / 2))) : MI rows [] a b :=
  ⟨ascR_nil, ha ▸ asc_sortR _, hb ▸ asc_sortR _, by simp, by simp, fun x => by
    rw [ha, hb, mem_sortR, mem_sortR, ← List.mem_append.trans Iff.rfl, List.take_append_drop]
    simp⟩
theorem MS.start {rows a b : List (List Int)} (ha : a = sortR (rows.take (rows.length / 2))) (hb : b = sortR (rows.drop (rows.length / 2))) : MS rows [] a b :=
  have h := MI.start ha hb
  ⟨h.o, h.sa, h.sb, by simp, by simp, h.m⟩
theorem MI.done {rows out : List (List Int)} (h : MI rows out [] []) : out = sortR rows := sortR_eq h.o fun x => by simpa using (h.m x).symm
theorem MS.done {rows out : List (List Int)} (h : MS rows out [] []) : out = sortR rows := sortR_eq h.o fun x => by simpa using (h.m x).symm
theorem asc_snoc {out : List (List Int)} {x : List Int} (h : AscR out) (hx : ∀ y ∈ out, cmpL y x < 0) : AscR (out ++ [x]) :=
  List.pairwise_append.2 ⟨h, List.pairwise_singleton _ _, fun y hy z hz => by rw [List.mem_singleton.1 hz]; exact hx y hy⟩
theorem AscR.tail {x : List Int} {l : List (List Int)} (h : AscR (x :: l)) : AscR l := (List.pairwise_cons.1 h).2
theorem AscR.head {x : List Int} {l : List (List Int)} (h : AscR (x :: l)) : ∀ y ∈ l, cmpL x y < 0 := (List.pairwise_cons.1 h).1
theorem MS.left {rows out a b : List (List Int)} {x : List Int} (h : MS rows out (x :: a) b) (hb : ∀ y ∈ b, cmpL x y < 0) : MS rows (out ++ [x]) a b where
  o := asc_snoc h.o fun y hy => h.la y hy x (by simp)
  sa := h.sa.tail
  sb := h.sb
  la := fun y hy z hz => by
    rcases List.mem_append.1 hy with k | k
    · exact h.la y k z (by simp [hz])
    · rw [List.mem_singleton.1 k]; exact h.sa.head z hz
  lb := fun y hy z hz => by
    rcases List.mem_append.1 hy with k | k
    · exact h.lb y k z hz
    · rw [List.mem_singleton.1 k]; exact hb z hz
  m := fun z => by rw [h.m]; simp only [List.mem_append, List.mem_cons, List.not_mem_nil, or_false]; grind
theorem MS.right {rows out a b : List (List Int)} {y : List Int} (h : MS rows out a (y :: b)) (ha : ∀ x ∈ a, cmpL y x < 0) : MS rows (out ++ [y]) a b where
  o := asc_snoc h.o fun z hz => h.lb z hz y (by simp)
  sa := h.sa
  sb := h.sb.tail
  la := fun u hu z hz => by
    rcases List.mem_append.1 hu with k | k
    · exact h.la u k z hz
    · rw [List.mem_singleton.1 k]; exact ha z hz
  lb := fun u hu z hz => by
    rcases List.mem_append.1 hu with k | k
    · exact h.lb u k z (by simp [hz])
    · rw [List.mem_singleton.1 k]; exact h.sb.head z hz
  m := fun z => by rw [h.m]; simp only [List.mem_append, List.mem_cons, List.not_mem_nil, or_false]; grind
theorem MI.left {rows out a b : List (List Int)} {x : List Int} (h : MI rows out (x :: a) b) (hb : ∀ y ∈ b, cmpL x y ≤ 0) (hl : ∀ z, out.getLast? = some z → cmpL z x ≠ 0) : MI rows (out ++ [x]) a b where
  o := asc_snoc h.o fun y hy => by
    have h1 := h.la y hy x (by simp)
    rcases Int.lt_or_eq_of_le h1 with h2 | h2
    · exact h2
    · exfalso
      obtain rfl := cmpL_zero.1 h2
      obtain ⟨z, hz⟩ : ∃ z, out.getLast? = some z := by
        cases hg : out.getLast? with
        | none => rw [List.getLast?_eq_none_iff] at hg; subst hg; simp at hy
        | some z => exact ⟨z, rfl⟩
      have hzm := List.mem_of_getLast? hz
      have h3 := hl z hz
      have h4 := h.la z hzm y (by simp)
      obtain ⟨ys, e⟩ := List.getLast?_eq_some_iff.1 hz
      subst e
      have ho := h.o
      unfold AscR at ho
      rw [List.pairwise_append] at ho
      rcases List.mem_append.1 hy with k | k
      · have h5 := ho.2.2 y k z (by simp)
        rw [cmpL_neg] at h5
        omega
      · rw [List.mem_singleton.1 k, cmpL_self] at h3
        exact h3 rfl
  sa := h.sa.tail
  sb := h.sb
  la := fun y hy z hz => by
    rcases List.mem_append.1 hy with k | k
    · exact h.la y k z (by simp [hz])
    · rw [List.mem_singleton.1 k]; exact Int.le_of_lt (h.sa.head z hz)
  lb := fun y hy z hz => by
    rcases List.mem_append.1 hy with k | k
    · exact h.lb y k z hz
    · rw [List.mem_singleton.1 k]; exact hb z hz
  m := fun z => by rw [h.m]; simp only [List.mem_append, List.mem_cons, List.not_mem_nil, or_false]; grind
theorem MI.swap {rows out a b : List (List Int)} (h : MI rows out a b) : MI rows out b a := ⟨h.o, h.sb, h.sa, h.lb, h.la, fun x => by rw [h.m]; constructor <;> (intro k; rcases k with k | k | k <;> simp [k])⟩
theorem MI.right {rows out a b : List (List Int)} {x : List Int} (h : MI rows out a (x :: b)) (ha : ∀ y ∈ a, cmpL x y ≤ 0) (hl : ∀ z, out.getLast? = some z → cmpL z x ≠ 0) : MI rows (out ++ [x]) a b := (h.swap.left ha hl).swap
end Go.Proofs.Ytbjpkfgkmilkdaa
namespace Go.Proofs.Ytbjpkfgkmilkdaa
open Go.RowKit
theorem not_mem_of {xs : List Int} {k : Nat} {n : Int} (hk : ¬ k < xs.length) (h : ∀ j (h : j < xs.length), j < k → xs[j] ≠ n) : n ∉ xs := fun hm => by
  obtain ⟨j, hj, e⟩ := List.getElem_of_mem hm
  exact h j hj (by omega) e
theorem ne_snoc {xs : List Int} {k : Nat} {n : Int} (hk : k < xs.length) (h : ∀ j (h : j < xs.length), j < k → xs[j] ≠ n) (hn : xs[k] ≠ n) : ∀ j (h : j < xs.length), j < k + 1 → xs[j] ≠ n := fun j hj hlt => by
  by_cases e : j = k
  · subst e; exact hn
  · exact h j hj (by omega)
set_option maxHeartbeats 400000 in
theorem specContains_any {s : ByteArray} {A : Option Addr} {c : Nat} {xs : List Int} {n : Int} {w : World} (hx : xs.length ≤ 1000000000) (h1 : RI w A xs) :
    Calls Try.prog 74 #[.agg #[.string s, .slice A xs.length c], .int .i64 n] w fun e w' => e = .returned (.bool (decide (n ∈ xs))) ∧ ∃ y, w' = ext w y := by
  go_enter Try.func74, Try.ntmps74
  go_wp2
  go_loop [5] (fun i => ∃ k : Nat, i = .int .i64 k ∧ k ≤ xs.length ∧ ∀ j (h : j < xs.length), j < k → xs[j] ≠ n) (fun i => xs.length - (intOf i).toNat)
  case atStart => exact ⟨0, rfl, by omega, by simp⟩
  case round =>
    obtain ⟨k, rfl, hk, hj⟩ := hrel
    have Hj := Lib.hid hj
    clear hj
    by_cases hlt : k < xs.length
    · obtain ⟨b, o, rfl, hb, hc⟩ := h1.atI hlt
      go_wp2
      · go_ret
        have e : xs[k] = n := by simpa using ‹(xs[k] == n) = true›
        exact ⟨by rw [decide_eq_true (by rw [← e]; exact List.getElem_mem hlt)]; rfl, (by refine x'z ?_; repeat (with_reducible (first | exact x'a _ _ | exact x'b _ | exact x'c (by assumption) | refine x'd ?_ (by assumption) | refine x'e ?_ _ | refine x'f ?_ _ | refine x'g ?_ | refine x'h ?_ ?_ _ | refine x'i ?_ _ | refine x'j ?_ | refine x'k ?_ _ | refine x'l ?_ _ _ | refine x'm ?_ | assumption | (refine x'n ?_; omega) | omega)))⟩
      · have e : xs[k] ≠ n := by simpa using ‹(xs[k] == n) = false›
        exact ⟨⟨k + 1, by go_num, by omega, ne_snoc hlt Hj.out e⟩, by simp [intOf]; omega⟩
    · go_wp2
      go_ret
      exact ⟨by rw [decide_eq_false (not_mem_of hlt Hj.out)]; rfl, (by refine x'z ?_; repeat (with_reducible (first | exact x'a _ _ | exact x'b _ | exact x'c (by assumption) | refine x'd ?_ (by assumption) | refine x'e ?_ _ | refine x'f ?_ _ | refine x'g ?_ | refine x'h ?_ ?_ _ | refine x'i ?_ _ | refine x'j ?_ | refine x'k ?_ _ | refine x'l ?_ _ _ | refine x'm ?_ | assumption | (refine x'n ?_; omega) | omega)))⟩
def iof (k : Nat) (n : Int) : List Int → Int
  | [] => -1
  | x :: xs => if x = n then k else iof (k + 1) n xs
theorem iof_step {k j : Nat} {n : Int} {xs : List Int} (h : j < xs.length) : iof k n (xs.drop j) = if xs[j] = n then (k : Int) else iof (k + 1) n (xs.drop (j + 1)) := by
  rw [List.drop_eq_getElem_cons h]; rfl
theorem iof_nonneg {n : Int} : ∀ (k : Nat) (xs : List Int), 0 ≤ iof k n xs ↔ n ∈ xs
  | _, [] => by simp [iof]
  | k, x :: xs => by
    unfold iof
    split
    · rename_i h; subst h; simp
    · rename_i h
      rw [iof_nonneg (k + 1) xs, List.mem_cons]
      constructor
      · exact .inr
      · rintro (e | e)
        · exact absurd e.symm h
        · exact e
set_option maxHeartbeats 400000 in
theorem indexOf_any {A : Option Addr} {c : Nat} {xs : List Int} {n : Int} {w : World} (hx : xs.length ≤ 1000000000) (h1 : RI w A xs) :
    Calls Try.prog 113 #[.slice A xs.length c, .int .i64 n] w fun e w' => e = .returned (.int .i64 (iof 0 n xs)) ∧ ∃ y, w' = ext w y := by
  go_enter Try.func113, Try.ntmps113
  go_wp2
  go_loop [9] (fun i => ∃ k : Nat, i = .int .i64 k ∧ k ≤ xs.length ∧ iof k n (xs.drop k) = iof 0 n xs) (fun i => xs.length - (intOf i).toNat)
  case atStart => exact ⟨0, rfl, by omega, by simp⟩
  case round =>
    obtain ⟨k, rfl, hk, hj⟩ := hrel
    have Hj := Lib.hid hj
    clear hj
    by_cases hlt : k < xs.length
    · obtain ⟨b, o, rfl, hb, hc⟩ := h1.atI hlt
      go_wp2
      · go_ret
        have e := Hj.out
        rw [iof_step hlt, if_pos (by simpa using ‹(xs[k] == n) = true›)] at e
        exact ⟨by rw [← e]; rfl, refl_ext w⟩
      · have e := Hj.out
        rw [iof_step hlt, if_neg (by simpa using ‹(xs[k] == n) = false›)] at e
        exact ⟨⟨k + 1, by go_num, by omega, e⟩, by simp [intOf]; omega⟩
    · go_wp2
      go_ret
      have e := Hj.out
      rw [List.drop_eq_nil_of_le (by omega)] at e
      exact ⟨by rw [← e]; rfl, refl_ext w⟩
theorem hasInt_any {A : Option Addr} {c : Nat} {xs : List Int} {n : Int} {w : World} (hx : xs.length ≤ 1000000000) (h1 : RI w A xs) :
    Calls Try.prog 104 #[.slice A xs.length c, .int .i64 n] w fun e w' => e = .returned (.bool (decide (n ∈ xs))) ∧ ∃ y, w' = ext w y := by
  go_enter Try.func104, Try.ntmps104
  go_wp2_with (go_at_call 113; refine (indexOf_any hx h1).mono ?_; rintro e w' ⟨rfl, y, rfl⟩)
  go_ret
  exact ⟨by simp only [← iof_nonneg 0 xs]; rfl, y, rfl⟩
end Go.Proofs.Ytbjpkfgkmilkdaa
namespace Go.Proofs.Ytbjpkfgkmilkdaa
open Go.RowKit
section
variable {P : Program} {w : World}
theorem wp_appL {o : Oper} {a : Act} {K : Act → World → Prop} {Q : Exit → Act → World → Prop} (s x : Operand) (t : TypeId)
    (ho : o.op = .call { callee := .builtin .append, args := #[s, x], argTypes := #[t, t] })
    {α : Type} {E : SE α} [SMono E] [SPlain E] {V : VE α} {te size bytes : Nat} {z : Value} (hT : SlT P t te size bytes z) {v : Value} {ds es : List α} {F : List Nat} (hs : a.eval s = v) (hS : SV te size E w v ds F)
    {A : Option Addr} {c m : Nat} (hx : a.eval x = .slice A m c) (hm : m = es.length) (hc : A = none → c = 0) (hV : RV size V w A es) (hVE : ∀ c d, V w c d → E w c d []) (h1 : ∀ c d, V w c d → ∀ u ∈ c, u.oneCell' = true)
    (hlen : ds.length + m ≤ 2000000000) (hby : bytes ≤ 60000)
    (h : ∀ v' w' F', SV te size E w' v' (ds ++ es) F' → Chg F w w' → (∀ b ∈ F', b ∈ F ∨ w.heap.size ≤ b) → K (a.put o.dst v') w') : o.wp P a w K Q := by
  subst hm
  cases A with
  | none =>
    have e0 : es = [] := Classical.byContradiction fun hn => by
      obtain ⟨b, o, h, _⟩ := hV hn
      cases h
    subst e0
    obtain ⟨ht, hi, _, _⟩ := hT
    obtain ⟨i, hi, _, _, _⟩ := info_parts hi
    rw [hc rfl] at hx
    have hS' := hS
    obtain ⟨vs, F2, ho', _, _⟩ := hS'
    have hrun := run_append_owned_none (P := P) (w := w) 0 t o.type te i size ht hi v ds.length vs ho'
    unfold Oper.wp execOp
    simp only [ho, resolve, invoke, builtin, Sem.run_bind, Sem.run_pure, Result.andThen_ok, List.map_toArray, List.map_cons, List.map_nil, hs, hx, List.length_nil, hrun]
    exact h v w F (by simpa using hS) (Chg.refl F w) fun b hb => .inl hb
  | some ad =>
    have hN := hS.nodup
    have key : ∃ cs : List Value, (∀ j u, cs[j]? = some u → w.cell? (ad.add j) = some u) ∧ elems size E w cs es [] ∧ ∀ u ∈ cs, u.oneCell' = true := by
      by_cases hn : es = []
      · subst hn
        exact ⟨[], by simp, ⟨rfl, rfl⟩, by simp⟩
      · obtain ⟨b, o, e, _, h3⟩ := hV hn
        injection e with e
        subst e
        exact RV.cells hVE h1 es o h3
    obtain ⟨cs, k1, k2, k3⟩ := key
    refine wp_appS _ s x t ho hT hs hS hN hx k1 k3 rfl k2 (by simpa using hN) hlen hby ?_
    intro v' w' F' h2 h3 _ h5
    exact h v' w' F' h2 h3 fun b hb => by
      rcases h5 b hb with h | h | h
      · exact .inl h
      · simp at h
      · exact .inr h
theorem vI_s {w : World} (c : List Value) (d : Int) (h : vI w c d) : sI w c d [] := ⟨h, rfl⟩
theorem vI_1 {w : World} (c : List Value) (d : Int) (h : vI w c d) : ∀ u ∈ c, u.oneCell' = true := by
  simp only [vI] at h
  subst h
  simp [Value.oneCell']
theorem RI.one {w : World} {B : Nat} {n : Int} (h : BoxAt w B #[.int .i64 n]) : RI w (some ⟨B, 0, none⟩) [n] := fun _ => ⟨B, 0, rfl, h.1, fun j hj => by
  have : j = 0 := by simpa using hj
  subst this
  refine ⟨[.int .i64 n], rfl, fun i hi => ?_, rfl⟩
  have : i = 0 := by simpa using hi
  subst this
  have := h.2.1 0
  simpa using this⟩
end
end Go.Proofs.Ytbjpkfgkmilkdaa
namespace Go.Proofs.Ytbjpkfgkmilkdaa
open Go.RowKit
section
variable {P : Program} {w : World}
theorem run_append_none_c (base : Nat) (t ty e : TypeId) (i : TypeInfo) (size c : Nat) (ht : P.underlying t = some (.slice e)) (hi : P.info? e = some i)
    (v : Value) (n : Nat) (xs : List Value) (hown : w.ownsRow base e size v n xs) : (Builtin.append_ #[t, t] ty #[v, .slice none 0 c]).run P w = .ok v w := by
  rcases hown.2 with ⟨rfl, rfl⟩ | ⟨g, cap, cur, rfl, _, _, hnc, _⟩
  · simp [Builtin.append_, run_underlying ht, sizeOf, typeInfo, hi, Builtin.lenOf, Builtin.firstCells]
  · simp [Builtin.append_, run_underlying ht, sizeOf, typeInfo, hi, Builtin.lenOf, Builtin.firstCells, hnc, storeCells]
theorem wp_appV {o : Oper} {a : Act} {K : Act → World → Prop} {Q : Exit → Act → World → Prop} (s x : Operand) (t : TypeId)
    (ho : o.op = .call { callee := .builtin .append, args := #[s, x], argTypes := #[t, t] })
    {α : Type} {E : SE α} [SMono E] [SPlain E] {V : VE α} {te size bytes : Nat} {z : Value} (hT : SlT P t te size bytes z) {v : Value} {ds es : List α} {F : List Nat} (hs : a.eval s = v) (hS : SV te size E w v ds F)
    {A : Option Addr} {c m : Nat} (hx : a.eval x = .slice A m c) (hm : m = es.length) (hV : RV size V w A es) (hVE : ∀ c d, V w c d → E w c d []) (h1 : ∀ c d, V w c d → ∀ u ∈ c, u.oneCell' = true)
    (hlen : ds.length + m ≤ 2000000000) (hby : bytes ≤ 60000)
    (h : ∀ v' w' F', SV te size E w' v' (ds ++ es) F' → Chg F w w' → (∀ b ∈ F', b ∈ F ∨ w.heap.size ≤ b) → K (a.put o.dst v') w') : o.wp P a w K Q := by
  cases A with
  | some ad => exact wp_appL s x t ho hT hs hS hx hm (fun h => by cases h) hV hVE h1 hlen hby h
  | none =>
    have e0 : es = [] := Classical.byContradiction fun hn => by
      obtain ⟨b, o, h, _⟩ := hV hn
      cases h
    subst e0
    subst hm
    obtain ⟨ht, hi, _, _⟩ := hT
    obtain ⟨i, hi, _, _, _⟩ := info_parts hi
    have hS' := hS
    obtain ⟨vs, F2, ho', _, _⟩ := hS'
    have hrun := run_append_none_c (P := P) (w := w) 0 t o.type te i size c ht hi v ds.length vs ho'
    unfold Oper.wp execOp
    simp only [ho, resolve, invoke, builtin, Sem.run_bind, Sem.run_pure, Result.andThen_ok, List.map_toArray, List.map_cons, List.map_nil, hs, hx, List.length_nil, hrun]
    exact h v w F (by simpa using hS) (Chg.refl F w) fun b hb => .inl hb
theorem step_appV {ops : Array Oper} {o : Oper} {a : Act} {K : Act → World → Prop} {Q : Exit → Act → World → Prop} {X : Prop} (hgd : o.guard = none) (s x : Operand) (t : TypeId)
    (ho : o.op = .call { callee := .builtin .append, args := #[s, x], argTypes := #[t, t] })
    {α : Type} {E : SE α} [SMono E] [SPlain E] {V : VE α} {te size bytes : Nat} {z : Value} (hT : SlT P t te size bytes z) {v : Value} {ds es : List α} {F : List Nat} (hs : a.eval s = v) (hS : SV te size E w v ds F)
    {A : Option Addr} {c m : Nat} (hx : a.eval x = .slice A m c) (hm : m = es.length) (hV : RV size V w A es) (hVE : ∀ c d, V w c d → E w c d []) (h1 : ∀ c d, V w c d → ∀ u ∈ c, u.oneCell' = true)
    (hlen : ds.length + m ≤ 2000000000) (hby : bytes ≤ 60000)
    (h : ∀ v' w' F', SV te size E w' v' (ds ++ es) F' → Chg F w w' → (∀ b ∈ F', b ∈ F ∨ w.heap.size ≤ b) → K (a.put o.dst v') w') :
    if Region.wanted o (yielded ops a.tmps) = true then Oper.wp P o a w K Q else X := by
  have hwt : Region.wanted o (yielded ops a.tmps) = true := by simp [Region.wanted, hgd]
  rw [if_pos hwt]
  exact wp_appV s x t ho hT hs hS hx hm hV hVE h1 hlen hby h
theorem wpList_appV {ops : Array Oper} {rest : List Oper} {o : Oper} {a : Act} {Q : Exit → Act → World → Prop} (hgd : o.guard = none) (s x : Operand) (t : TypeId)
    (ho : o.op = .call { callee := .builtin .append, args := #[s, x], argTypes := #[t, t] })
    {α : Type} {E : SE α} [SMono E] [SPlain E] {V : VE α} {te size bytes : Nat} {z : Value} (hT : SlT P t te size bytes z) {v : Value} {ds es : List α} {F : List Nat} (hs : a.eval s = v) (hS : SV te size E w v ds F)
    {A : Option Addr} {c m : Nat} (hx : a.eval x = .slice A m c) (hm : m = es.length) (hV : RV size V w A es) (hVE : ∀ c d, V w c d → E w c d []) (h1 : ∀ c d, V w c d → ∀ u ∈ c, u.oneCell' = true)
    (hlen : ds.length + m ≤ 2000000000) (hby : bytes ≤ 60000)
    (h : ∀ v' w' F', SV te size E w' v' (ds ++ es) F' → Chg F w w' → (∀ b ∈ F', b ∈ F ∨ w.heap.size ≤ b) → wpList P ops Q rest (a.put o.dst v') w') : wpList P ops Q (o :: rest) a w :=
  wpList_plain hgd fun _ hK => wp_appV s x t ho hT hs hS hx hm hV hVE h1 hlen hby fun v' w' F' h2 h3 h5 => hK _ _ (h v' w' F' h2 h3 h5)
end
def sOld {α : Type} (V : VE α) (W : World) : SE α := fun _ c d F => V W c d ∧ F = []
instance {α : Type} (V : VE α) (W : World) : SMono (sOld V W) := ⟨fun h b hb => by rw [h.2] at hb; simp at hb, fun h _ => h⟩
instance {α : Type} (V : VE α) (W : World) : SPlain (sOld V W) := ⟨fun h => h.2⟩
end Go.Proofs.Ytbjpkfgkmilkdaa
namespace Go.Proofs.Ytbjpkfgkmilkdaa
open Go.RowKit
def PlI (rows : List (List Int)) (row : List Int) (lo hi : Nat) : Prop := AscR rows → (∀ i (_ : i < rows.length), i < lo → cmpL rows[i] row < 0) ∧ ∀ i (_ : i < rows.length), hi ≤ i → ¬ cmpL rows[i] row < 0
theorem PlI.start (rows : List (List Int)) (row : List Int) : PlI rows row 0 rows.length := fun _ => ⟨fun i _ h => by omega, fun i h k => by omega⟩
end Go.Proofs.Ytbjpkfgkmilkdaa
namespace Go.Proofs.Ytbjpkfgkmilkdaa
open Go.RowKit
def letB (b : UInt8) : Bool := decide (97 ≤ b.toNat ∧ b.toNat ≤ 122)
def nameB (s : ByteArray) : Bool := inB s.size 1 4 && (bl s).all letB
theorem letB_t {b : UInt8} (h : letB b = true) : 97 ≤ (b.toNat : Int) ∧ (b.toNat : Int) ≤ 122 := by simp [letB] at h; omega
theorem letB_f {b : UInt8} (h : ¬ letB b = true) : (b.toNat : Int) < 97 ∨ 122 < (b.toNat : Int) := by simp [letB] at h; omega
theorem lets_step {s : ByteArray} {k : Nat} (h : k < s.size) : ((bl s).drop k).all letB = (letB s[k] && ((bl s).drop (k + 1)).all letB) := by
  rw [List.drop_eq_getElem_cons (by rw [bl_length]; exact h), List.all_cons, bl_get s h]
theorem lets_end {s : ByteArray} {k : Nat} (h : ¬ k < s.size) : ((bl s).drop k).all letB = true := by
  rw [List.drop_eq_nil_of_le (by rw [bl_length]; omega)]; rfl
set_option maxHeartbeats 400000 in
theorem isLetters_any {s : ByteArray} {w : World} (hs : s.size ≤ 1000000000) :
    Calls Try.prog 105 #[.string s, .int .i64 4] w fun e w' => e = .returned (.bool (nameB s)) ∧ w = w' := by
  by_cases h1 : s.size < 1
  · have HE := Lib.hid (show nameB s = false by unfold nameB inB; rw [decide_eq_false (by omega), Bool.false_and])
    go_enter Try.func105, Try.ntmps105
    go_wp2
    go_ret
    exact ⟨by rw [HE.out]; rfl, rfl⟩
  · by_cases h2 : 4 < s.size
    · have HE := Lib.hid (show nameB s = false by unfold nameB inB; rw [decide_eq_false (by omega), Bool.false_and])
      go_enter Try.func105, Try.ntmps105
      go_wp2
      go_ret
      exact ⟨by rw [HE.out]; rfl, rfl⟩
    · have HE := Lib.hid (show nameB s = (bl s).all letB by unfold nameB inB; rw [decide_eq_true (by omega), Bool.true_and])
      go_enter Try.func105, Try.ntmps105
      go_wp2
      go_loop [5] (fun i => ∃ k : Nat, i = .int .i64 k ∧ k ≤ s.size ∧ ((bl s).drop k).all letB = nameB s) (fun i => s.size - (intOf i).toNat)
      case atStart => exact ⟨0, rfl, by omega, by rw [HE.out]; simp⟩
      case round =>
        obtain ⟨k, rfl, hk, hj⟩ := hrel
        have Hj := Lib.hid hj
        clear hj
        by_cases hlt : k < s.size
        · have e := Hj.out
          rw [lets_step hlt] at e
          by_cases hl : letB s[k] = true
          · obtain ⟨q1, q2⟩ := letB_t hl
            rw [hl, Bool.true_and] at e
            have He := Lib.hid e
            clear e hl
            go_wp2
            exact ⟨⟨k + 1, by go_num, by omega, He.out⟩, by simp [intOf]; omega⟩
          · rw [show letB s[k] = false by simpa using hl, Bool.false_and] at e
            have He := Lib.hid e
            rcases letB_f hl with q | q
            all_goals
              clear e hl
              go_wp2
              go_ret
              exact ⟨by rw [← He.out]; rfl, rfl⟩
        · have e := Hj.out
          rw [lets_end hlt] at e
          have He := Lib.hid e
          clear e
          go_wp2
          go_ret
          exact ⟨by rw [← He.out]; rfl, rfl⟩
theorem IsValidName_any {s : ByteArray} {w : World} (hs : s.size ≤ 1000000000) :
    Calls Try.prog 78 #[.string s] w fun e w' => e = .returned (.bool (nameB s)) ∧ w = w' := by
  go_enter Try.func78, Try.ntmps78
  go_wp2_with (go_at_call 105; refine (isLetters_any hs).mono ?_; rintro e w' ⟨rfl, rfl⟩)
  go_ret
  exact ⟨rfl, rfl⟩
set_option maxHeartbeats 400000 in
theorem specIsValidName_any {s : ByteArray} {w : World} (hs : s.size ≤ 1000000000) :
    Calls Try.prog 73 #[.string s] w fun e w' => e = .returned (.bool (nameB s)) ∧ w = w' := by
  go_enter Try.func73, Try.ntmps73
  go_wp2
  go_loop [3] (fun i => ∃ k : Nat, i = .int .i64 k ∧ k ≤ s.size ∧ ((bl s).drop k).all letB = (bl s).all letB) (fun i => s.size - (intOf i).toNat)
  case atStart => exact ⟨0, rfl, by omega, by simp⟩
  case round =>
    obtain ⟨k, rfl, hk, hj⟩ := hrel
    have Hj := Lib.hid hj
    clear hj
    by_cases hlt : k < s.size
    · have e := Hj.out
      rw [lets_step hlt] at e
      by_cases hl : letB s[k] = true
      · obtain ⟨q1, q2⟩ := letB_t hl
        rw [hl, Bool.true_and] at e
        have He := Lib.hid e
        clear e hl
        go_wp2
        exact ⟨⟨k + 1, by go_num, by omega, He.out⟩, by simp [intOf]; omega⟩
      · rw [show letB s[k] = false by simpa using hl, Bool.false_and] at e
        have He := Lib.hid (show nameB s = false by unfold nameB; rw [← e, Bool.and_false])
        rcases letB_f hl with q | q
        all_goals
          clear e hl
          go_wp2
          go_ret
          exact ⟨by rw [He.out]; rfl, rfl⟩
    · have e := Hj.out
      rw [lets_end hlt] at e
      have He := Lib.hid (show nameB s = inB s.size 1 4 by unfold nameB; rw [← e, Bool.and_true])
      clear e
      go_wp2_with (go_at_call 72; refine (l1In_any _ _ _ _).mono ?_; rintro e w' ⟨rfl, rfl⟩)
      go_ret
      exact ⟨by rw [He.out]; rfl, rfl⟩
def setB (n : Int) : List Int → List Int → Bool
  | _, [] => true
  | pre, x :: xs => inB x 0 (n - 1) && !decide (x ∈ pre) && setB n (pre ++ [x]) xs
theorem setB_step {n : Int} {xs : List Int} {k : Nat} (h : k < xs.length) : setB n (xs.take k) (xs.drop k) = (inB xs[k] 0 (n - 1) && !decide (xs[k] ∈ xs.take k) && setB n (xs.take (k + 1)) (xs.drop (k + 1))) := by
  rw [List.drop_eq_getElem_cons h, setB, List.take_succ_eq_append_getElem h]
theorem setB_end {n : Int} {xs : List Int} {k : Nat} (h : ¬ k < xs.length) : setB n (xs.take k) (xs.drop k) = true := by
  rw [List.drop_eq_nil_of_le (by omega), setB]
theorem setB_sound : ∀ {n : Int} {xs pre : List Int}, setB n pre xs = true → (∀ x ∈ xs, 0 ≤ x ∧ x < n) ∧ xs.Nodup ∧ ∀ x ∈ xs, x ∉ pre
  | n, [], pre, _ => ⟨by simp, by simp, by simp⟩
  | n, x :: xs, pre, h => by
    rw [setB, Bool.and_eq_true, Bool.and_eq_true] at h
    obtain ⟨⟨h1, h2⟩, h3⟩ := h
    have h1 := inB_t h1
    obtain ⟨a, b, c⟩ := setB_sound h3
    refine ⟨?_, ?_, ?_⟩
    · intro y hy
      rcases List.mem_cons.1 hy with e | e
      · subst e; omega
      · exact a y e
    · refine List.nodup_cons.2 ⟨fun hm => ?_, b⟩
      have := c x hm
      simp at this
    · intro y hy
      rcases List.mem_cons.1 hy with e | e
      · subst e; simpa using h2
      · intro hp
        have := c y e
        simp [hp] at this
theorem nodup_len : ∀ (n : Nat) (xs : List Int), xs.Nodup → (∀ x ∈ xs, 0 ≤ x ∧ x < n) → xs.length ≤ n
  | 0, xs, _, h => by
    cases xs with
    | nil => simp
    | cons x xs => have := h x (by simp); omega
  | n + 1, xs, hn, h => by
    by_cases hm : (n : Int) ∈ xs
    · obtain ⟨s, t, rfl⟩ := List.append_of_mem hm
      have hn2 := List.nodup_append.1 hn
      have hn3 := List.nodup_cons.1 hn2.2.1
      have h2 : (s ++ t).Nodup := List.nodup_append.2 ⟨hn2.1, hn3.2, fun a ha b hb => hn2.2.2 a ha b (by simp [hb])⟩
      have := nodup_len n (s ++ t) h2 fun x hx => by
        have h3 := h x (by rcases List.mem_append.1 hx with e | e <;> simp [e])
        have h4 : x ≠ n := by
          rintro rfl
          rcases List.mem_append.1 hx with e | e
          · exact hn2.2.2 _ e _ (by simp) rfl
          · exact hn3.1 e
        omega
      simp at this ⊢
      omega
    · have := nodup_len n xs hn fun x hx => by
        have h3 := h x hx
        have h4 : x ≠ n := by rintro rfl; exact hm hx
        omega
      omega
theorem setB_len {n : Int} {xs : List Int} (h : setB n [] xs = true) (hn : 0 ≤ n) : (xs.length : Int) ≤ n := by
  obtain ⟨a, b, _⟩ := setB_sound h
  have := nodup_len n.toNat xs b fun x hx => by have := a x hx; omega
  omega
theorem RV.pre {w : World} {α : Type} {size : Nat} {E : VE α} {A : Option Addr} {xs : List α} (h : RV size E w A xs) (k : Nat) : RV size E w A (xs.take k) := fun hn => by
  obtain ⟨b, o, h1, h2, h3⟩ := h (by intro e; subst e; simp at hn)
  refine ⟨b, o, h1, h2, fun j hj => ?_⟩
  simp only [List.length_take] at hj
  obtain ⟨c, hc, hr, he⟩ := h3 j (by omega)
  exact ⟨c, hc, hr, by simpa using he⟩
theorem hasInt_n {A : Option Addr} {c m : Nat} {xs : List Int} {n : Int} {w : World} (hm : xs.length = m) (hx : m ≤ 1000000000) (h1 : RI w A xs) :
    Calls Try.prog 104 #[.slice A m c, .int .i64 n] w fun e w' => e = .returned (.bool (decide (n ∈ xs))) ∧ ∃ y, w' = ext w y := by
  subst hm
  exact hasInt_any hx h1
set_option maxHeartbeats 1000000 in
theorem isSetOf_any {A : Option Addr} {c : Nat} {xs : List Int} {n : Int} {w : World} (hx : xs.length ≤ 1000000000) (hcap : xs.length ≤ c) (h1 : RI w A xs) (hn0 : 0 ≤ n) (hn1 : n ≤ 1000) :
    Calls Try.prog 77 #[.slice A xs.length c, .int .i64 n] w fun e w' => e = .returned (.bool (setB n [] xs)) ∧ ∃ y, w' = ext w y := by
  go_enter Try.func77, Try.ntmps77
  go_wp2
  go_loopw [9] (fun i wr => ∃ k : Nat, i = .int .i64 k ∧ k ≤ xs.length ∧ setB n (xs.take k) (xs.drop k) = setB n [] xs ∧ ∃ y, wr = ext w y) (fun i _ => xs.length - (intOf i).toNat)
  case atStart => exact ⟨0, rfl, by omega, by simp, refl_ext w⟩
  case round =>
    obtain ⟨k, rfl, hk, hj, hy⟩ := hrel
    have Hj := Lib.hid hj
    clear hj
    by_cases hlt : k < xs.length
    · have h1' := h1.toExt hy
      obtain ⟨b, o, rfl, hb, hc⟩ := h1'.atI hlt
      have e := Hj.out
      rw [setB_step hlt] at e
      obtain ⟨t1, ht1⟩ : ∃ t, inB xs[k] 0 (n - 1) = t := ⟨_, rfl⟩
      obtain ⟨t2, ht2⟩ : ∃ t, decide (xs[k] ∈ xs.take k) = t := ⟨_, rfl⟩
      rw [ht1, ht2] at e
      have T1 := Lib.hid ht1
      have T2 := Lib.hid ht2
      have He := Lib.hid e
      have hp := h1'.pre k
      have hpl : (xs.take k).length = k := by simp; omega
      have HP := Lib.hid hpl
      clear e ht1 ht2 hpl
      cases t1 with
      | false =>
        go_wp2_with (go_at_call 76; refine (within_any _ _ _ _).mono ?_; rintro e w' ⟨rfl, rfl⟩; rw [T1.out])
        go_ret
        exact ⟨by rw [← He.out]; rfl, hy⟩
      | true =>
        cases t2 with
        | true =>
          go_wp2_with (first
            | (go_at_call 76; refine (within_any _ _ _ _).mono ?_; rintro e w' ⟨rfl, rfl⟩; rw [T1.out])
            | (go_at_call 104; refine (hasInt_n HP.out (by omega) hp).mono ?_; rintro e w' ⟨rfl, hx1⟩; rw [T2.out]))
          go_ret
          exact ⟨by rw [← He.out]; rfl, (by refine x'z ?_; repeat (with_reducible (first | exact x'a _ _ | exact x'b _ | exact x'c (by assumption) | refine x'd ?_ (by assumption) | refine x'e ?_ _ | refine x'f ?_ _ | refine x'g ?_ | refine x'h ?_ ?_ _ | refine x'i ?_ _ | refine x'j ?_ | refine x'k ?_ _ | refine x'l ?_ _ _ | refine x'm ?_ | assumption | (refine x'n ?_; omega) | omega)))⟩
        | false =>
          go_wp2_with (first
            | (go_at_call 76; refine (within_any _ _ _ _).mono ?_; rintro e w' ⟨rfl, rfl⟩; rw [T1.out])
            | (go_at_call 104; refine (hasInt_n HP.out (by omega) hp).mono ?_; rintro e w' ⟨rfl, hx1⟩; rw [T2.out]))
          exact ⟨⟨k + 1, by go_num, by omega, by simpa using He.out, (by refine x'z ?_; repeat (with_reducible (first | exact x'a _ _ | exact x'b _ | exact x'c (by assumption) | refine x'd ?_ (by assumption) | refine x'e ?_ _ | refine x'f ?_ _ | refine x'g ?_ | refine x'h ?_ ?_ _ | refine x'i ?_ _ | refine x'j ?_ | refine x'k ?_ _ | refine x'l ?_ _ _ | refine x'm ?_ | assumption | (refine x'n ?_; omega) | omega)))⟩, by simp [intOf]; omega⟩
    · have e := Hj.out
      rw [setB_end hlt] at e
      have He := Lib.hid e
      clear e
      go_wp2
      go_ret
      exact ⟨by rw [← He.out]; rfl, hy⟩
set_option maxHeartbeats 400000 in
theorem l7Find_any {A : Option Addr} {c : Nat} {xs : List Int} {n : Int} {w : World} (hx : xs.length ≤ 1000000000) (h1 : RI w A xs) :
    Calls Try.prog 75 #[.slice A xs.length c, .int .i64 n] w fun e w' => e = .returned (.int .i64 (iof 0 n xs)) ∧ ∃ y, w' = ext w y := by
  go_enter Try.func75, Try.ntmps75
  go_wp2
  go_loop [5] (fun i => ∃ k : Nat, i = .int .i64 k ∧ k ≤ xs.length ∧ iof k n (xs.drop k) = iof 0 n xs) (fun i => xs.length - (intOf i).toNat)
  case atStart => exact ⟨0, rfl, by omega, by simp⟩
  case round =>
    obtain ⟨k, rfl, hk, hj⟩ := hrel
    have Hj := Lib.hid hj
    clear hj
    by_cases hlt : k < xs.length
    · obtain ⟨b, o, rfl, hb, hc⟩ := h1.atI hlt
      go_wp2
      · go_ret
        have e := Hj.out
        rw [iof_step hlt, if_pos (by simpa using ‹(xs[k] == n) = true›)] at e
        exact ⟨by rw [← e]; rfl, refl_ext w⟩
      · have e := Hj.out
        rw [iof_step hlt, if_neg (by simpa using ‹(xs[k] == n) = false›)] at e
        exact ⟨⟨k + 1, by go_num, by omega, e⟩, by simp [intOf]; omega⟩
    · go_wp2
      go_ret
      have e := Hj.out
      rw [List.drop_eq_nil_of_le (by omega)] at e
      exact ⟨by rw [← e]; rfl, refl_ext w⟩
end Go.Proofs.Ytbjpkfgkmilkdaa
namespace Go.Proofs.Ytbjpkfgkmilkdaa
open Go.RowKit
abbrev At := ByteArray × List Int
abbrev vAt : VE At := vP 1 vS (vSl 1 vI)
abbrev sAt : SE At := sP 1 sS (sSl 3 1 sI)
abbrev vAts : VE (List At) := vSl 2 vAt
abbrev sAts : SE (List At) := sSl 89 2 sAt
theorem sAt_v {w : World} (c : List Value) (d : At) (F : List Nat) (h : sAt w c d F) : vAt w c d := sP_v sS_v (sSl_v sI_v) c d F h
theorem sAts_v {w : World} (c : List Value) (d : List At) (F : List Nat) (h : sAts w c d F) : vAts w c d := sSl_v sAt_v c d F h
def cAt (x : At) : Nat := x.1.size + x.2.length
def BAts (d : List At) : Prop := d.length ≤ 1048576 ∧ (d.map cAt).sum ≤ 1048576
theorem BAts.each {d : List At} (h : BAts d) : ∀ x ∈ d, x.1.size ≤ 1048576 ∧ x.2.length ≤ 1048576 := fun x hx => by
  have h1 := sum_each (c := cAt) hx
  have h2 := h.2
  unfold cAt at h1 h2
  omega
theorem RV.atA {w : World} {A : Option Addr} {d : List At} {k : Nat} (h : RV 2 vAt w A d) (hk : k < d.length) : ∃ b o A' c', A = some ⟨b, o, none⟩ ∧ b < w.heap.size ∧ w.cell? ⟨b, o + k * 2, none⟩ = some (.string d[k].1) ∧ w.cell? ⟨b, o + k * 2 + 1, none⟩ = some (.slice A' d[k].2.length c') ∧ RI w A' d[k].2 := by
  obtain ⟨b, o, h1, h2, c, hc, hr, c0, c1, e, _, hs, A', c', rfl, hv⟩ := h.get hk
  simp only [vS] at hs
  subst hs e
  exact ⟨b, o, A', _, h1, h2, by simpa using hr 0 (by simp), by simpa using hr 1 (by simp), hv⟩
theorem vAts_get {w : World} {A : Option Addr} {n c : Nat} {d : List At} (h : vAts w [.slice A n c] d) : n = d.length ∧ RV 2 vAt w A d := by
  obtain ⟨A', c', e, h⟩ := h
  injection e with e
  injection e with e1 e2 e3
  subst e1
  exact ⟨e2, h⟩
theorem tA : SlT Try.prog 41 89 2 40 (.agg #[.string ⟨#[]⟩, .slice none 0 0]) := ⟨Try.underlying41, by kernel_rfl, rfl, by omega⟩
end Go.Proofs.Ytbjpkfgkmilkdaa
namespace Go.Proofs.Ytbjpkfgkmilkdaa
open Go.RowKit
abbrev Qd := Int × (List At × List Int)
abbrev vQ : VE Qd := vP 1 vI (vP 1 vAts (vSl 1 vI))
abbrev sQ : SE Qd := sP 1 sI (sP 1 sAts (sSl 3 1 sI))
theorem sQ_v {w : World} (c : List Value) (d : Qd) (F : List Nat) (h : sQ w c d F) : vQ w c d := sP_v sI_v (sP_v sAts_v (sSl_v sI_v)) c d F h
def BQ (d : Qd) : Prop := I64 d.1 ∧ BAts d.2.1 ∧ d.2.2.length ≤ 1048576
def WQ (d : Qd) : Prop := I64 d.1 ∧ (d.2.1.length ≤ 4194304 ∧ ∀ x ∈ d.2.1, x.1.size ≤ 4194304 ∧ x.2.length ≤ 4194304) ∧ d.2.2.length ≤ 4194304
theorem BQ.w {d : Qd} (h : BQ d) : WQ d := ⟨h.1, ⟨by have := h.2.1.1; omega, fun x hx => by have := h.2.1.each x hx; omega⟩, by have := h.2.2; omega⟩
theorem vQ_get {w : World} {A B : Option Addr} {c e : Nat} {n m : Nat} {z : Int} {d : Qd} (h : vQ w [.int .i64 z, .slice A n c, .slice B m e] d) : vAts w [.slice A n c] d.2.1 ∧ RI w B d.2.2 ∧ d.2.2.length ≤ e := by
  obtain ⟨c0, c1, e0, h0, h1, c2, c3, e1, h2, ⟨A2, d2, rfl, k2⟩, A3, d3, rfl, k3⟩ := h
  simp only [vI] at h1
  subst e1 h1
  simp only [List.cons_append, List.nil_append, List.cons.injEq, Value.slice.injEq, and_true] at e0
  obtain ⟨q0, ⟨q1, q2, q3⟩, q4, q5, q6⟩ := e0
  subst q1 q2 q3 q4 q5 q6
  exact ⟨⟨_, _, rfl, k2⟩, k3, by omega⟩
theorem sQ_form {w : World} {v0 v1 v2 : Value} {d : Qd} {F : List Nat} (h : sQ w [v0, v1, v2] d F) : ∃ A c B e, v0 = .int .i64 d.1 ∧ v1 = .slice A d.2.1.length c ∧ v2 = .slice B d.2.2.length e := by
  obtain ⟨c0, c1, F0, F1, e0, h0, ⟨h1, _⟩, ⟨c2, c3, F2, F3, e1, h2, ⟨u1, rfl, h3⟩, ⟨u2, rfl, h4⟩, _⟩, _⟩ := h
  subst e1 h1
  simp only [List.cons_append, List.nil_append, List.cons.injEq, and_true] at e0
  obtain ⟨rfl, rfl, rfl⟩ := e0
  obtain ⟨A, c, rfl, _⟩ := h3.form
  obtain ⟨B, e, rfl, _⟩ := h4.form
  exact ⟨A, c, B, e, rfl, rfl, rfl⟩
end Go.Proofs.Ytbjpkfgkmilkdaa
