/- Contracts of functions that the statement reaches. -/
import Derived.Deep.RegionLaw
import Derived.Test.YtfigcfajkilhiaaGreatRows
import Derived.Test.YtfigcfajkilhiaaGreatE07
import Derived.Test.YtfigcfajkilhiaaGreatE02
import Derived.Test.YtfigcfajkilhiaaGreatE01
import Derived.Test.YtfigcfajkilhiaaGreatE04
import Derived.Test.YtfigcfajkilhiaaGreatE06
import Derived.Test.YtfigcfajkilhiaaGreatE03
namespace Go.Proofs.YtfigcfajkilhiaaGreat
open Go.RowKit
def nmG : ByteArray → List Int → ByteArray
  | acc, [] => acc
  | acc, v :: vs => nmG (acc ++ vname v) vs
def names (l : List Int) : ByteArray := nmG ⟨#[]⟩ l
def par (l : List Int) : ByteArray := ⟨#[40]⟩ ++ names l ++ ⟨#[41]⟩
theorem vqB_facts {d : Qd} (h : vqB d = true) : d.2.1.length ≤ 4 ∧ d.2.2.length ≤ 5 ∧ ∀ x ∈ d.2.1, x.1.size ≤ 4 ∧ x.2.length ≤ 5 := by
  unfold vqB at h
  simp only [Bool.and_eq_true, List.all_eq_true] at h
  obtain ⟨⟨⟨⟨h1, h2⟩, h3⟩, h4⟩, _⟩ := h
  have h1 := inB_t h1
  have h2 := inB_t h2
  have h3 := setB_len h3 (by omega)
  refine ⟨by omega, by omega, fun x hx => ?_⟩
  have h5 := h4 x hx
  unfold atomB nameB at h5
  simp only [Bool.and_eq_true] at h5
  obtain ⟨⟨⟨h6, _⟩, h7⟩, _⟩ := h5
  have h6 := inB_t h6
  have h7 := inB_t h7
  omega
end Go.Proofs.YtfigcfajkilhiaaGreat
namespace Go.Proofs.YtfigcfajkilhiaaGreat
open Go.RowKit
theorem vqB_vars {d : Qd} (h : vqB d = true) : 1 ≤ d.1 ∧ d.1 ≤ 5 ∧ ∀ a ∈ d.2.1, ∀ v ∈ a.2, 0 ≤ v ∧ v < d.1 := by
  unfold vqB at h
  simp only [Bool.and_eq_true, List.all_eq_true] at h
  obtain ⟨⟨⟨⟨h1, _⟩, _⟩, h4⟩, _⟩ := h
  have h1 := inB_t h1
  refine ⟨h1.1, h1.2, fun a ha v hv => ?_⟩
  have h5 := h4 a ha
  unfold atomB at h5
  simp only [Bool.and_eq_true, List.all_eq_true] at h5
  have := inB_t (h5.2 v hv)
  omega
end Go.Proofs.YtfigcfajkilhiaaGreat
namespace Go.Proofs.YtfigcfajkilhiaaGreat
open Go.RowKit
theorem map_at' {l : List Int} {h g : Int → Int} (e : l.map h = l.map g) : ∀ v ∈ l, h v = g v := fun v hv => List.map_inj_left.1 e v hv
def relOf (d : Dbd) (a : At) : Rd := (lookD d a.1).getD (0, [])
def atFit (d : Dbd) (a : At) : Bool := match lookD d a.1 with | some r => decide (r.1 = (a.2.length : Int)) | none => false
def iqfB (d : Dbd) (q : Qd) : Bool := vqB q && dbB d && q.2.1.all (atFit d)
def rowFit (vars row : List Int) : Bool := decide (vars.map (valAt vars row) = row)
def atomBd (d : Dbd) (a : At) : Rd :=
  (((avars 5 0 a.2).length : Int), if atFit d a = true ∧ ∀ v ∈ a.2, 0 ≤ v ∧ v ≤ 4 then sortR (((relOf d a).2.filter (rowFit a.2)).map fun row => (avars 5 0 a.2).map (valAt a.2 row)) else [])
def atomVR (d : Dbd) (a : At) : VRd := (avars 5 0 a.2, atomBd d a)
theorem mem_av5 {xs : List Int} {x : Int} (h : ∀ v ∈ xs, 0 ≤ v ∧ v ≤ 4) : x ∈ avars 5 0 xs ↔ x ∈ xs := by
  rw [mem_avars]
  constructor
  · exact fun h => h.2.2
  · intro hx
    have := h x hx
    exact ⟨by omega, by omega, hx⟩
theorem atFit_some {d : Dbd} {a : At} (h : atFit d a = true) : dbB d = true ∧ TOk (a.1, relOf d a) ∧ (relOf d a).1 = (a.2.length : Int) := by
  unfold atFit at h
  cases e : lookD d a.1 with
  | none => rw [e] at h; cases h
  | some r =>
    rw [e] at h
    have h2 := lookD_ok e
    have er : relOf d a = r := by unfold relOf; rw [e]; rfl
    rw [er]
    exact ⟨h2.1, h2.2, by simpa using h⟩
theorem mem_atom {d : Dbd} {a : At} (hf : atFit d a = true) (hv : ∀ v ∈ a.2, 0 ≤ v ∧ v ≤ 4) {t : List Int} : t ∈ (atomBd d a).2 ↔ ∃ g : Int → Int, (avars 5 0 a.2).map g = t ∧ a.2.map g ∈ (relOf d a).2 := by
  unfold atomBd
  simp only
  rw [if_pos ⟨hf, hv⟩, mem_sortR, List.mem_map]
  constructor
  · rintro ⟨row, hr, rfl⟩
    rw [List.mem_filter] at hr
    have h2 : a.2.map (valAt a.2 row) = row := by simpa [rowFit] using hr.2
    exact ⟨valAt a.2 row, rfl, by rw [h2]; exact hr.1⟩
  · rintro ⟨g, rfl, hg⟩
    refine ⟨a.2.map g, List.mem_filter.2 ⟨hg, ?_⟩, List.map_congr_left fun v hm => valAt_map ((mem_av5 hv).1 hm)⟩
    unfold rowFit
    rw [decide_eq_true_eq]
    exact List.map_congr_left fun v hm => valAt_map hm
theorem atomBd_ok {d : Dbd} {a : At} : VrOk (atomVR d a) := by
  have hlo : ∀ v ∈ avars 5 0 a.2, 0 ≤ v ∧ v ≤ 4 := fun v hv => by
    have := (mem_avars 5 0 _ _).1 hv
    omega
  have hasc := asc_avars 5 0 a.2
  unfold atomVR atomBd
  by_cases hc : atFit d a = true ∧ ∀ v ∈ a.2, 0 ≤ v ∧ v ≤ 4
  · rw [if_pos hc]
    obtain ⟨_, hT, hl⟩ := atFit_some hc.1
    have hr := rowsB_iff.1 hT.rel
    have hcnt := hT.cnt
    refine ⟨hasc, hlo, asc_len5 hasc hlo, rfl, ?_, fun r hr => ?_, fun r hrm => ?_, asc_sortR _⟩
    · refine Nat.le_trans (sortR_length _) ?_
      rw [List.length_map]
      refine Nat.le_trans (List.length_filter_le _ _) ?_
      simp only at hcnt ⊢
      omega
    · obtain ⟨row, _, rfl⟩ := List.mem_map.1 (mem_sortR.1 hr)
      simp
    · obtain ⟨row, h2, rfl⟩ := List.mem_map.1 (mem_sortR.1 hrm)
      rw [List.mem_filter] at h2
      have h3 := hr.2.2.2.1 row h2.1
      rw [rowV_iff]
      intro x hx
      obtain ⟨v, hv, rfl⟩ := List.mem_map.1 hx
      refine rowV_iff.1 h3.2 _ (valAt_mem ((mem_av5 hc.2).1 hv) ?_)
      have := h3.1
      simp only at this
      omega
  · rw [if_neg hc]
    exact ⟨hasc, hlo, asc_len5 hasc hlo, rfl, by simp, by simp, by simp, ascR_nil⟩
def fitX : List Int → List Int → List Int → Option (List Int)
  | x, v :: vs, y :: ys => if x.getD v.toNat 0 = -1 ∨ x.getD v.toNat 0 = y then fitX (x.set v.toNat y) vs ys else none
  | x, _, _ => some x
def walkL (d : Dbd) : List At → List Int → List (List Int)
  | [], row => [row]
  | a :: ats, row => (relOf d a).2.flatMap fun r => match fitX row a.2 r with | some x => walkL d ats x | none => []
def allB (d : Dbd) (q : Qd) : List (List Int) := sortR (walkL d q.2.1 (List.replicate q.1.toNat (-1)))
def bindR (d : Dbd) (q : Qd) : Option Rd := if iqfB d q = true ∧ (allB d q).length ≤ 4000 then some (q.1, allB d q) else none
theorem getD_set_self {x : List Int} {i : Nat} {y : Int} (h : i < x.length) : (x.set i y).getD i 0 = y := by
  rw [getDl _ _ (by simpa using h)]; simp
theorem getD_set_ne {x : List Int} {i j : Nat} {y : Int} (h : i ≠ j) : (x.set i y).getD j 0 = x.getD j 0 := by
  simp only [List.getD_eq_getElem?_getD, List.getElem?_set, if_neg h]
def Over (x z : List Int) : Prop := z.length = x.length ∧ ∀ i, i < x.length → x.getD i 0 ≠ -1 → z.getD i 0 = x.getD i 0
theorem fitX_iff : ∀ {vs ys : List Int} {x z : List Int}, vs.length = ys.length → (∀ v ∈ vs, 0 ≤ v ∧ v < x.length) → (∀ y ∈ ys, y ≠ -1) →
    (fitX x vs ys = some z ↔ Over x z ∧ pickL z vs = ys ∧ ∀ i, i < x.length → x.getD i 0 = -1 → (i : Int) ∉ vs → z.getD i 0 = -1)
  | [], [], x, z, _, _, _ => by
    simp only [fitX, Option.some.injEq]
    constructor
    · rintro rfl
      exact ⟨⟨rfl, fun _ _ _ => rfl⟩, rfl, fun _ _ h _ => h⟩
    · rintro ⟨⟨h1, h2⟩, _, h3⟩
      apply List.ext_getElem h1.symm
      intro i h4 h5
      have e1 : x[i] = x.getD i 0 := (getDl _ _ h4).symm
      have e2 : z[i] = z.getD i 0 := (getDl _ _ h5).symm
      rw [e1, e2]
      by_cases h6 : x.getD i 0 = -1
      · rw [h6, h3 i h4 h6 (by simp)]
      · exact (h2 i h4 h6).symm
  | [], _ :: _, _, _, h, _, _ => by simp at h
  | _ :: _, [], _, _, h, _, _ => by simp at h
  | v :: vs, y :: ys, x, z, hl, hv, hy => by
    have hv0 := hv v (by simp)
    have hy0 := hy y (by simp)
    obtain ⟨n, rfl⟩ := Int.eq_ofNat_of_zero_le hv0.1
    have hn : n < x.length := by omega
    rw [fitX, Int.toNat_natCast]
    by_cases hc : x.getD n 0 = -1 ∨ x.getD n 0 = y
    · rw [if_pos hc, fitX_iff (x := x.set n y) (by simpa using hl) (by simpa using fun u hu => hv u (by simp [hu])) (fun u hu => hy u (by simp [hu]))]
      constructor
      · rintro ⟨⟨h1, h2⟩, h3, h4⟩
        rw [List.length_set] at h1 h2 h4
        have hz : z.getD n 0 = y := by
          rw [h2 n hn (by rw [getD_set_self hn]; exact hy0), getD_set_self hn]
        refine ⟨⟨h1, fun i hi hx => ?_⟩, ?_, fun i hi hx hm => ?_⟩
        · by_cases e : n = i
          · subst e
            rcases hc with hc | hc
            · exact absurd hc hx
            · rw [hz, hc]
          · have := h2 i hi (by rw [getD_set_ne e]; exact hx)
            rwa [getD_set_ne e] at this
        · unfold pickL at h3 ⊢
          rw [List.map_cons, h3, Int.toNat_natCast, hz]
        · rw [List.mem_cons, not_or] at hm
          have e : n ≠ i := fun e => hm.1 (by rw [e])
          exact h4 i hi (by rw [getD_set_ne e]; exact hx) hm.2
      · rintro ⟨⟨h1, h2⟩, h3, h4⟩
        unfold pickL at h3
        rw [List.map_cons, List.cons.injEq, Int.toNat_natCast] at h3
        refine ⟨⟨by rw [List.length_set]; exact h1, fun i hi hx => ?_⟩, h3.2, fun i hi hx hm => ?_⟩
        · rw [List.length_set] at hi
          by_cases e : n = i
          · subst e
            rw [getD_set_self hn]; exact h3.1
          · rw [getD_set_ne e] at hx ⊢
            exact h2 i hi hx
        · rw [List.length_set] at hi
          by_cases e : n = i
          · subst e
            rw [getD_set_self hn] at hx
            exact absurd hx hy0
          · rw [getD_set_ne e] at hx
            exact h4 i hi hx (by rw [List.mem_cons, not_or]; exact ⟨fun k => e (by omega), hm⟩)
    · rw [if_neg hc]
      constructor
      · intro h; cases h
      · rintro ⟨⟨h1, h2⟩, h3, h4⟩
        exfalso
        unfold pickL at h3
        rw [List.map_cons, List.cons.injEq, Int.toNat_natCast] at h3
        rw [not_or] at hc
        exact hc.2 (by rw [← h2 n hn hc.1, h3.1])
def Holds (d : Dbd) (ats : List At) (z : List Int) : Prop := ∀ a ∈ ats, pickL z a.2 ∈ (relOf d a).2
theorem walkL_iff {d : Dbd} : ∀ {ats : List At} {x z : List Int}, (∀ a ∈ ats, atFit d a = true ∧ ∀ v ∈ a.2, 0 ≤ v ∧ v < x.length) →
    (z ∈ walkL d ats x ↔ Over x z ∧ Holds d ats z ∧ ∀ i, i < x.length → x.getD i 0 = -1 → (∀ a ∈ ats, (i : Int) ∉ a.2) → z.getD i 0 = -1)
  | [], x, z, _ => by
    rw [walkL, List.mem_singleton]
    have := fitX_iff (vs := []) (ys := []) (x := x) (z := z) rfl (by simp) (by simp)
    simp only [fitX, Option.some.injEq] at this
    rw [eq_comm, this]
    simp [Holds, pickL]
  | a :: ats, x, z, h => by
    obtain ⟨hf, hv⟩ := h a (by simp)
    obtain ⟨_, hT, hl⟩ := atFit_some hf
    have hr := (rowsB_iff.1 hT.rel).2.2.2.1
    simp only at hr
    rw [walkL, List.mem_flatMap]
    constructor
    · rintro ⟨r, hrm, hz⟩
      have h1 := hr r hrm
      have hfx := fun x' => fitX_iff (vs := a.2) (ys := r) (x := x) (z := x') (by omega) hv (fun y hy => by have := (rowV_iff.1 h1.2 y hy).1; omega)
      cases e : fitX x a.2 r with
      | none => rw [e] at hz; simp at hz
      | some x' =>
        rw [e] at hz
        obtain ⟨⟨o1, o2⟩, p1, u1⟩ := (hfx x').1 e
        have ih := (walkL_iff (d := d) (ats := ats) (x := x') (z := z) (fun b hb => by rw [o1]; exact h b (by simp [hb]))).1 hz
        obtain ⟨⟨q1, q2⟩, q3, q4⟩ := ih
        have hzx : ∀ i, i < x.length → x'.getD i 0 ≠ -1 → z.getD i 0 = x'.getD i 0 := fun i hi h => q2 i (by omega) h
        refine ⟨⟨by omega, fun i hi hx => ?_⟩, fun b hb => ?_, fun i hi hx hm => ?_⟩
        · rw [hzx i hi (by rw [o2 i hi hx]; exact hx), o2 i hi hx]
        · rcases List.mem_cons.1 hb with e | e
          · subst e
            have : pickL z b.2 = pickL x' b.2 := by
              unfold pickL
              refine List.map_congr_left fun v hvm => ?_
              have hb2 := hv v hvm
              refine hzx v.toNat (by omega) ?_
              have hp : x'.getD v.toNat 0 ∈ pickL x' b.2 := List.mem_map.2 ⟨v, hvm, rfl⟩
              rw [p1] at hp
              have := (rowV_iff.1 h1.2 _ hp).1
              omega
            rw [this, p1]
            exact hrm
          · exact q3 b e
        · refine q4 i (by omega) (u1 i hi hx (hm a (by simp))) fun b hb => hm b (by simp [hb])
    · rintro ⟨⟨o1, o2⟩, hH, u1⟩
      refine ⟨pickL z a.2, hH a (by simp), ?_⟩
      have h1 := hr _ (hH a (by simp))
      -- what is laid over x so far
      obtain ⟨x', hx'⟩ : ∃ x' : List Int, x' = (List.range x.length).map fun (i : Nat) => if (i : Int) ∈ a.2 then z.getD i 0 else x.getD i 0 := ⟨_, rfl⟩
      have hlx : x'.length = x.length := by rw [hx']; simp
      have hgx : ∀ i, i < x.length → x'.getD i 0 = if (i : Int) ∈ a.2 then z.getD i 0 else x.getD i 0 := fun i hi => by
        rw [hx', getDl _ _ (by simpa using hi)]; simp
      have e : fitX x a.2 (pickL z a.2) = some x' := by
        rw [fitX_iff (by simp [pickL]) hv (fun y hy => by have := (rowV_iff.1 h1.2 y hy).1; omega)]
        refine ⟨⟨hlx, fun i hi hx => ?_⟩, ?_, fun i hi hx hm => ?_⟩
        · rw [hgx i hi]; split
          · exact o2 i hi hx
          · rfl
        · unfold pickL
          refine List.map_congr_left fun v hvm => ?_
          have hb := hv v hvm
          rw [hgx _ (by omega), if_pos (by rw [Int.toNat_of_nonneg hb.1]; exact hvm)]
        · rw [hgx i hi, if_neg hm]; exact hx
      rw [e]
      rw [walkL_iff (fun b hb => by rw [hlx]; exact h b (by simp [hb]))]
      refine ⟨⟨by omega, fun i hi hx => ?_⟩, fun b hb => hH b (by simp [hb]), fun i hi hx hm => ?_⟩
      · rw [hlx] at hi
        rw [hgx i hi] at hx ⊢
        split
        · rfl
        · rename_i k
          rw [if_neg k] at hx
          exact o2 i hi hx
      · rw [hlx] at hi
        by_cases k : (i : Int) ∈ a.2
        · rw [hgx i hi, if_pos k] at hx; exact hx
        · rw [hgx i hi, if_neg k] at hx
          exact u1 i hi hx fun b hb => by
            rcases List.mem_cons.1 hb with e | e
            · subst e; exact k
            · exact hm b e
structure QOk (d : Dbd) (q : Qd) : Prop where
  n1 : 1 ≤ q.1
  n5 : q.1 ≤ 5
  db : dbB d = true
  at1 : 1 ≤ q.2.1.length
  at4 : q.2.1.length ≤ 4
  fit : ∀ a ∈ q.2.1, atFit d a = true
  vars : ∀ a ∈ q.2.1, ∀ v ∈ a.2, 0 ≤ v ∧ v < q.1
  cov : ∀ v : Int, 0 ≤ v → v < q.1 → ∃ a ∈ q.2.1, v ∈ a.2
  out : ∀ v ∈ q.2.2, 0 ≤ v ∧ v < q.1
theorem mem_allB {d : Dbd} {q : Qd} (h : QOk d q) {z : List Int} : z ∈ allB d q ↔ (z.length : Int) = q.1 ∧ Holds d q.2.1 z := by
  have h1 := h.n1
  unfold allB
  rw [mem_sortR, walkL_iff (fun a ha => ⟨h.fit a ha, fun v hv => by have := h.vars a ha v hv; simp; omega⟩)]
  simp only [List.length_replicate]
  constructor
  · rintro ⟨⟨o1, _⟩, h2, _⟩
    rw [List.length_replicate] at o1
    exact ⟨by omega, h2⟩
  · rintro ⟨h2, h3⟩
    refine ⟨⟨by rw [List.length_replicate]; omega, fun i hi hx => ?_⟩, h3, fun i hi _ hm => ?_⟩
    · rw [List.length_replicate] at hi
      rw [getDl _ _ (by simpa using hi), List.getElem_replicate] at hx
      exact absurd rfl hx
    · obtain ⟨a, ha, hv⟩ := h.cov (i : Int) (by omega) (by omega)
      exact absurd hv (hm a ha)
def idV (n : Int) : List Int := (List.range n.toNat).map fun (i : Nat) => (i : Int)
theorem mem_idV {n v : Int} : v ∈ idV n ↔ 0 ≤ v ∧ v < n := by
  unfold idV
  rw [List.mem_map]
  constructor
  · rintro ⟨i, hi, rfl⟩
    have := List.mem_range.1 hi
    omega
  · rintro ⟨h1, h2⟩
    exact ⟨v.toNat, List.mem_range.2 (by omega), by omega⟩
theorem asc_idV (n : Int) : Asc (idV n) := List.pairwise_map.2 (List.Pairwise.imp (fun {a b} h => by omega) List.pairwise_lt_range)
theorem idV_get {n : Int} {g : Int → Int} {v : Int} (h : 0 ≤ v ∧ v < n) : ((idV n).map g).getD v.toNat 0 = g v := by
  unfold idV
  rw [List.map_map, getDl _ _ (by simp; omega)]
  simp [Int.toNat_of_nonneg h.1]
theorem pick_idV {n : Int} {g : Int → Int} {l : List Int} (h : ∀ v ∈ l, 0 ≤ v ∧ v < n) : pickL ((idV n).map g) l = l.map g := List.map_congr_left fun v hv => idV_get (h v hv)
theorem holds_map {d : Dbd} {q : Qd} (h : QOk d q) {g : Int → Int} : Holds d q.2.1 ((idV q.1).map g) ↔ ∀ a ∈ q.2.1, a.2.map g ∈ (relOf d a).2 := by
  unfold Holds
  constructor
  · intro hh a ha
    have := hh a ha
    rwa [pick_idV (h.vars a ha)] at this
  · intro hh a ha
    rw [pick_idV (h.vars a ha)]
    exact hh a ha
theorem row_map {n : Int} {z : List Int} (h : (z.length : Int) = n) : (idV n).map (fun v => z.getD v.toNat 0) = z := by
  subst h
  apply List.ext_getElem
  · simp [idV]
  · intro i h1 h2
    simp only [idV, List.map_map, List.getElem_map, List.getElem_range, Function.comp, Int.toNat_natCast]
    exact getDl _ _ h2
theorem allB_g {d : Dbd} {q : Qd} (h : QOk d q) {z : List Int} : z ∈ allB d q ↔ ∃ g : Int → Int, (idV q.1).map g = z ∧ ∀ a ∈ q.2.1, a.2.map g ∈ (relOf d a).2 := by
  rw [mem_allB h]
  constructor
  · rintro ⟨h1, h2⟩
    refine ⟨_, row_map h1, ?_⟩
    rw [← holds_map h, row_map h1]
    exact h2
  · rintro ⟨g, rfl, hg⟩
    have := h.n1
    exact ⟨by simp [idV]; omega, (holds_map h).2 hg⟩
end Go.Proofs.YtfigcfajkilhiaaGreat
