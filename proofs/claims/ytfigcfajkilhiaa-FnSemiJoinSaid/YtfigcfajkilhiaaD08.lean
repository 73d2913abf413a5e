/- Contracts of functions that the statements reach, joined from several texts: JoinLaw, VrBd. -/
import Derived.Test.YtfigcfajkilhiaaD02
import Derived.Test.YtfigcfajkilhiaaD04
import Derived.Test.YtfigcfajkilhiaaD05
/- What holds of semijoins and natural joins: once more changes nothing, the order of the two does not matter. No program in it. -/
namespace Go.Proofs.Ytfigcfajkilhiaa
open Go.RowKit
theorem semi_id {va vb : List Int} {ra rb : List (List Int)} : semiL va (semiL va ra vb rb) vb rb = semiL va ra vb rb := by
  unfold semiL
  rw [List.filter_filter]
  congr 1
  funext r
  simp
theorem semiR_id {a b x : VRd} (h : semiR a b = some x) : semiR x b = some x := by
  have hx := semi_ok h
  unfold semiR at h
  split at h
  · rename_i hh
    injection h with h
    subst h
    unfold semiR
    rw [if_pos ⟨vrB_iff.2 hx, hh.2⟩]
    simp only [semi_id]
  · cases h
theorem semiR_none {a b : VRd} (h : ¬ (vrB a = true ∧ vrB b = true)) : semiR a b = none := by unfold semiR; rw [if_neg h]
theorem joinR_none {a b : VRd} (h : ¬ (vrB a = true ∧ vrB b = true)) : joinR a b = none := by unfold joinR; rw [if_neg (fun k => h k.1)]
/-- few rows on both sides: few rows together -/
theorem joinL_cnt {un va vb : List Int} {ra rb : List (List Int)} {m n : Nat} (h1 : ra.length ≤ m) (h2 : rb.length ≤ n) : (joinL un va ra vb rb).length ≤ m * n := by
  have : (joinL un va ra vb rb).length ≤ ra.length * rb.length := by
    unfold joinL
    clear h1
    induction ra with
    | nil => simp
    | cons r ra ih =>
      rw [List.flatMap_cons, List.length_append, List.length_map, List.length_cons, Nat.succ_mul]
      have := List.length_filter_le (fun s => agreeB va r vb s) rb
      omega
  exact Nat.le_trans this (Nat.mul_le_mul h1 h2)
theorem joinR_some {a b : VRd} {m n : Nat} (h : vrB a = true ∧ vrB b = true) (h1 : a.2.2.length ≤ m) (h2 : b.2.2.length ≤ n) (h3 : m * n ≤ 4000) : joinR a b = some (joinVR a b) := by
  unfold joinR
  rw [if_pos ⟨h, Nat.le_trans (joinL_cnt h1 h2) h3⟩]
theorem uniL_comm {a b : List Int} (ha : Asc a) (hb : Asc b) : uniL a b = uniL b a := asc_ext (asc_uniL ha) (asc_uniL hb) fun v => by
  rw [mem_uniL, mem_uniL]
  exact Or.comm
theorem joinVR_comm {a b : VRd} (h : vrB a = true ∧ vrB b = true) : joinVR a b = joinVR b a := by
  have ha := vrB_iff.1 h.1
  have hb := vrB_iff.1 h.2
  have e := uniL_comm ha.asc hb.asc
  have e2 : sortR (joinL (uniL a.1 b.1) a.1 a.2.2 b.1 b.2.2) = sortR (joinL (uniL b.1 a.1) b.1 b.2.2 a.1 a.2.2) := sortR_congr fun t => by
    rw [join_mem ha hb, join_mem hb ha, e]
    constructor
    · rintro ⟨g, h1, h2, h3⟩; exact ⟨g, h1, h3, h2⟩
    · rintro ⟨g, h1, h2, h3⟩; exact ⟨g, h1, h3, h2⟩
  unfold joinVR
  rw [e2, e]
theorem joinVR_ok {a b : VRd} {m n : Nat} (h : vrB a = true ∧ vrB b = true) (h1 : a.2.2.length ≤ m) (h2 : b.2.2.length ≤ n) (h3 : m * n ≤ 4000) : VrOk (joinVR a b) := join_ok (joinR_some h h1 h2 h3)
theorem joinVR_cnt {a b : VRd} {m n : Nat} (h1 : a.2.2.length ≤ m) (h2 : b.2.2.length ≤ n) : (joinVR a b).2.2.length ≤ m * n := Nat.le_trans (sortR_length _) (joinL_cnt h1 h2)
/-- joined with what lies in it already -/
theorem join_same {x a : VRd} (hx : VrOk x) (ha : VrOk a) (hs : ∀ v ∈ a.1, v ∈ x.1) (hr : ∀ g : Int → Int, x.1.map g ∈ x.2.2 → a.1.map g ∈ a.2.2) : joinVR x a = x := by
  have e : uniL x.1 a.1 = x.1 := asc_ext (asc_uniL hx.asc) hx.asc fun v => by
    rw [mem_uniL]
    constructor
    · rintro (h | h)
      · exact h
      · exact hs v h
    · exact fun h => .inl h
  have e2 : sortR (joinL (uniL x.1 a.1) x.1 x.2.2 a.1 a.2.2) = x.2.2 := ascR_ext (asc_sortR _) hx.ra fun t => by
    rw [mem_sortR, join_mem hx ha, e]
    constructor
    · rintro ⟨g, rfl, h2, _⟩; exact h2
    · intro ht
      have hg := map_valAt (r := t) (asc_nodup hx.asc) (hx.rl t ht)
      exact ⟨valAt x.1 t, hg, by rw [hg]; exact ht, hr _ (by rw [hg]; exact ht)⟩
  unfold joinVR
  rw [e2, e, ← hx.ar]
theorem join_self {a : VRd} (h : vrB a = true) : joinVR a a = a := join_same (vrB_iff.1 h) (vrB_iff.1 h) (fun _ h => h) fun _ h => h
theorem join_again {a b : VRd} {m n : Nat} (h : vrB a = true ∧ vrB b = true) (h1 : a.2.2.length ≤ m) (h2 : b.2.2.length ≤ n) (h3 : m * n ≤ 4000) : joinVR (joinVR a b) a = joinVR a b := by
  refine join_same (joinVR_ok h h1 h2 h3) (vrB_iff.1 h.1) (fun v hv => mem_uniL.2 (.inl hv)) fun g hg => ?_
  have hg : (uniL a.1 b.1).map g ∈ sortR (joinL (uniL a.1 b.1) a.1 a.2.2 b.1 b.2.2) := hg
  rw [mem_sortR, join_mem (vrB_iff.1 h.1) (vrB_iff.1 h.2)] at hg
  obtain ⟨k, e, h5, _⟩ := hg
  rw [← List.map_congr_left fun v hv => List.map_inj_left.1 e v (mem_uniL.2 (.inl hv))]
  exact h5
/-! the columns of some variables among others -/
def selI : Nat → Int → List Int → List Int
  | _, _, [] => []
  | k, v, x :: xs => if x = v then (k : Int) :: selI (k + 1) v xs else selI (k + 1) v xs
theorem selI_step {k n : Nat} {v : Int} {xs : List Int} (h : n < xs.length) : selI k v (xs.drop n) = if xs[n] = v then (k : Int) :: selI (k + 1) v (xs.drop (n + 1)) else selI (k + 1) v (xs.drop (n + 1)) := by
  rw [List.drop_eq_getElem_cons h]; rfl
theorem selI_none {v : Int} : ∀ {xs : List Int} {k : Nat}, v ∉ xs → selI k v xs = []
  | [], _, _ => rfl
  | x :: xs, k, h => by
    rw [List.mem_cons, not_or] at h
    rw [selI, if_neg (fun e => h.1 e.symm), selI_none h.2]
theorem selI_one {v : Int} : ∀ {xs : List Int} {k : Nat}, xs.Nodup → v ∈ xs → selI k v xs = [iof k v xs]
  | x :: xs, k, hn, h => by
    rw [List.nodup_cons] at hn
    rw [selI, iof]
    by_cases e : x = v
    · rw [if_pos e, if_pos e, selI_none (e ▸ hn.1)]
    · rw [if_neg e, if_neg e]
      rcases List.mem_cons.1 h with h | h
      · exact absurd h.symm e
      · exact selI_one hn.2 h
def colsL (jv av : List Int) : List Int := av.flatMap fun v => selI 0 v jv
theorem colsL_step {jv av : List Int} {k : Nat} (h : k < av.length) : colsL jv (av.take (k + 1)) = colsL jv (av.take k) ++ selI 0 av[k] jv := by
  unfold colsL
  rw [List.take_succ_eq_append_getElem h, List.flatMap_append]
  simp
theorem colsL_eq {jv : List Int} (hn : jv.Nodup) : ∀ {av : List Int}, (∀ v ∈ av, v ∈ jv) → colsL jv av = av.map fun v => iof 0 v jv
  | [], _ => rfl
  | v :: av, h => by
    unfold colsL
    rw [List.flatMap_cons, selI_one hn (h v (by simp))]
    have := colsL_eq hn (av := av) fun u hu => h u (by simp [hu])
    unfold colsL at this
    rw [this]
    rfl
/-- the columns of the left one in the join tell the semijoin -/
theorem proj_join {a b x : VRd} {m n : Nat} (hx : semiR a b = some x) (h1 : a.2.2.length ≤ m) (h2 : b.2.2.length ≤ n) (h3 : m * n ≤ 4000) : projR (joinVR a b).2 (colsL (joinVR a b).1 a.1) = some x.2 := by
  have hxx := semi_ok hx
  unfold semiR at hx
  split at hx
  · rename_i h
    injection hx with hx
    subst hx
    have ha := vrB_iff.1 h.1
    have hb := vrB_iff.1 h.2
    have hj := joinVR_ok h h1 h2 h3
    have hjv := vrB_iff.2 hj
    unfold vrB at hjv
    rw [Bool.and_eq_true, Bool.and_eq_true] at hjv
    have hun : ∀ v ∈ a.1, v ∈ uniL a.1 b.1 := fun v hv => mem_uniL.2 (.inl hv)
    have hnd := asc_nodup hj.asc
    have ec : colsL (joinVR a b).1 a.1 = a.1.map fun v => iof 0 v (uniL a.1 b.1) := colsL_eq hnd hun
    have hlen := ha.len
    have hfit : fitsC (joinVR a b).2.1 (colsL (joinVR a b).1 a.1) = true := by
      rw [fitsC_iff, ec]
      refine ⟨by simp; omega, fun c hc => ?_⟩
      obtain ⟨v, hv, rfl⟩ := List.mem_map.1 hc
      obtain ⟨i, e1, e2⟩ := iof_get (k := 0) (hun v hv)
      have hi : i < (uniL a.1 b.1).length := (List.getElem?_eq_some_iff.1 e2).1
      rw [e1]
      refine ⟨by omega, ?_⟩
      show ((0 + i : Nat) : Int) < ((uniL a.1 b.1).length : Int)
      omega
    have epick : ∀ t : List Int, pickL t (colsL (joinVR a b).1 a.1) = a.1.map (valAt (uniL a.1 b.1) t) := fun t => by
      rw [ec]
      unfold pickL
      rw [List.map_map]
      rfl
    have hlc : (colsL (joinVR a b).1 a.1).length = a.1.length := by rw [ec]; simp
    have hmem : ∀ s, s ∈ ((joinVR a b).2.2.map fun r => pickL r (colsL (joinVR a b).1 a.1)) ↔ s ∈ semiL a.1 a.2.2 b.1 b.2.2 := fun s => by
      rw [mem_semiL (asc_nodup ha.asc) (asc_nodup hb.asc) ha.rl hb.rl, List.mem_map]
      constructor
      · rintro ⟨t, ht, rfl⟩
        rw [epick]
        have ht : t ∈ sortR (joinL (uniL a.1 b.1) a.1 a.2.2 b.1 b.2.2) := ht
        rw [mem_sortR, join_mem ha hb] at ht
        obtain ⟨g, rfl, h5, h6⟩ := ht
        have e : a.1.map (valAt (uniL a.1 b.1) ((uniL a.1 b.1).map g)) = a.1.map g := List.map_congr_left fun v hv => valAt_map (hun v hv)
        rw [e]
        exact ⟨h5, g, rfl, h6⟩
      · rintro ⟨h5, g, rfl, h6⟩
        refine ⟨(uniL a.1 b.1).map g, ?_, ?_⟩
        · show (uniL a.1 b.1).map g ∈ sortR (joinL (uniL a.1 b.1) a.1 a.2.2 b.1 b.2.2)
          rw [mem_sortR, join_mem ha hb]
          exact ⟨g, rfl, h5, h6⟩
        · rw [epick]
          exact List.map_congr_left fun v hv => valAt_map (hun v hv)
    have hs : sortR ((joinVR a b).2.2.map fun r => pickL r (colsL (joinVR a b).1 a.1)) = semiL a.1 a.2.2 b.1 b.2.2 := by
      rw [sortR_congr hmem]
      exact sortR_asc hxx.ra
    unfold projR
    rw [if_pos ⟨hjv.1.2, hfit⟩, newR_some (rowsIn_iff.2 fun r hr => by
      have := (hmem r).1 hr
      exact ⟨by rw [hxx.rl r this, hlc], hxx.rv r this⟩) (by omega) (by rw [hlc]; omega) (by rw [hs]; exact hxx.cnt), hs, hlc]
    simp [ha.ar]
  · cases hx
end Go.Proofs.Ytfigcfajkilhiaa

/- Valid labeled relations are small. No program in it. -/
namespace Go.Proofs.Ytfigcfajkilhiaa
open Go.RowKit

theorem vrok_bd {d : VRd} (h : VrOk d) : BVR d := by
  have h1 := h.len
  have h2 := h.cnt
  have h3 := sum_len (m := 5) (l := d.2.2) (fun x hx => by rw [h.rl x hx]; exact h.len)
  refine ⟨by omega, ⟨?_, ?_⟩, by omega, by omega⟩
  · rw [h.ar]; omega
  · rw [h.ar]; omega
theorem zVR_bd : BVR zVR := ⟨by decide, ⟨by decide, by decide⟩, by decide, by decide⟩
theorem semi_bd (d d' : VRd) : BVR ((semiR d d').getD zVR) := by
  cases h : semiR d d' with
  | none => exact zVR_bd
  | some x => exact vrok_bd (semi_ok h)
theorem join_bd (d d' : VRd) : BVR ((joinR d d').getD zVR) := by
  cases h : joinR d d' with
  | none => exact zVR_bd
  | some x => exact vrok_bd (join_ok h)
end Go.Proofs.Ytfigcfajkilhiaa
