/- Contracts of functions that the statements reach, joined from several texts: PQPl, DrawQPl, Split, PQ1, Split2, PQ2, PQ3, MarkQ, DrawQ, DrawQ2, Draw12, Draw13. -/
import Derived.Test.YtfigcfajkilhiaaE04
import Derived.Test.YtfigcfajkilhiaaE05
import Derived.Test.YtfigcfajkilhiaaRows
import Derived.Test.YtfigcfajkilhiaaE01
import Derived.Test.YtfigcfajkilhiaaE03
import Derived.Deep.RegionLaw
import Derived.Deep.DrawnRows
import Derived.Deep.DeepCutAuto
import Derived.Test.YtfigcfajkilhiaaE02
import Derived.Deep.CutBlock
/- Queries read from text: plain laws; the program's way and the reference's give the same. -/
namespace Go.Proofs.Ytfigcfajkilhiaa
open Go.RowKit

/-- the number of a variable's name -/
def vix (b : UInt8) : Option Int := if b = 88 then some 0 else if b = 89 then some 1 else if b = 90 then some 2 else if b = 85 then some 3 else if b = 86 then some 4 else none
def pnG : List Int → List UInt8 → Option (List Int)
  | acc, [] => some acc
  | acc, b :: l => match vix b with
    | none => none
    | some v => pnG (acc ++ [v]) l
def pnB (s : ByteArray) : Bool := decide (2 ≤ s.size) && decide ((bl s).head? = some 40) && decide ((bl s).getLast? = some 41)
def pN (s : ByteArray) : Option (List Int) := if pnB s = true then pnG [] (((bl s).take (s.size - 1)).drop 1) else none
/-- the place of the first byte c -/
def ixc (c : UInt8) : List UInt8 → Nat
  | [] => 0
  | x :: xs => if x = c then 0 else ixc c xs + 1
def mxv (n : Int) (vs : List Int) : Int := vs.foldl (fun m v => max m (v + 1)) n
def pqG : Int → List At → List ByteArray → Option (Int × List At)
  | n, ats, [] => some (n, ats)
  | n, ats, w :: ws => match pN (w.extract (ixc 40 (bl w)) w.size) with
    | none => none
    | some vs => pqG (mxv n vs) (ats ++ [(w.extract 0 (ixc 40 (bl w)), vs)]) ws
def finQ (d : Qd) (s : ByteArray) : Option Qd := if fmtQ d = s ∧ s.size ≠ 0 then some d else none
def pQ (s : ByteArray) : Option Qd := match pN ((splB 61 s).getD 0 ⟨#[]⟩) with
  | none => none
  | some out => if (splB 61 s).length = 2 then (match pqG 0 [] (splB 44 ((splB 61 s).getD 1 ⟨#[]⟩)) with
    | none => none
    | some r => finQ (r.1, r.2, out) s) else none
def lst (l : List UInt8) : List Int := l.filterMap vix
def pqS : Int → List At → List ByteArray → Int × List At
  | n, ats, [] => (n, ats)
  | n, ats, w :: ws => pqS (mxv n (lst (bl w))) (ats ++ [((splB 40 w).getD 0 ⟨#[]⟩, lst (bl w))]) ws
def pQs (s : ByteArray) : Option Qd := if (splB 61 s).length = 2 then finQ ((pqS 0 [] (splB 44 ((splB 61 s).getD 1 ⟨#[]⟩))).1, (pqS 0 [] (splB 44 ((splB 61 s).getD 1 ⟨#[]⟩))).2, lst (bl ((splB 61 s).getD 0 ⟨#[]⟩))) s else none

theorem finQ_some {d q : Qd} {s : ByteArray} (h : finQ d s = some q) : d = q ∧ vqB q = true ∧ fmtQ q = s := by
  unfold finQ at h
  split at h
  · rename_i h1
    injection h with h
    subst h
    refine ⟨rfl, ?_, h1.1⟩
    cases hv : vqB d with
    | true => rfl
    | false =>
      refine absurd ?_ h1.2
      rw [← h1.1]
      unfold fmtQ
      rw [hv]
      rfl
  · cases h
theorem finQ_self {d : Qd} (h : vqB d = true) : finQ d (fmtQ d) = some d := by
  have hs : (fmtQ d).size ≠ 0 := by
    unfold fmtQ
    rw [if_pos h, ba_size, ba_size, ba_size, show (ByteArray.mk #[40]).size = 1 from rfl]
    omega
  unfold finQ
  rw [if_pos ⟨rfl, hs⟩]
theorem pQ_some {s : ByteArray} {d : Qd} (h : pQ s = some d) : vqB d = true ∧ fmtQ d = s := by
  unfold pQ at h
  split at h
  · cases h
  · split at h
    · split at h
      · cases h
      · exact (finQ_some h).2
    · cases h
theorem pQs_some {s : ByteArray} {d : Qd} (h : pQs s = some d) : vqB d = true ∧ fmtQ d = s := by
  unfold pQs at h
  split at h
  · exact (finQ_some h).2
  · cases h
/-! the text of a valid query -/
theorem vix_vname {v : Int} (h0 : 0 ≤ v) (h4 : v ≤ 4) : ∃ b, bl (vname v) = [b] ∧ vix b = some v ∧ b ≠ 40 ∧ b ≠ 44 ∧ b ≠ 61 := by
  have h : v = 0 ∨ v = 1 ∨ v = 2 ∨ v = 3 ∨ v = 4 := by omega
  rcases h with rfl | rfl | rfl | rfl | rfl
  · exact ⟨88, by decide, by decide, by decide, by decide, by decide⟩
  · exact ⟨89, by decide, by decide, by decide, by decide, by decide⟩
  · exact ⟨90, by decide, by decide, by decide, by decide, by decide⟩
  · exact ⟨85, by decide, by decide, by decide, by decide, by decide⟩
  · exact ⟨86, by decide, by decide, by decide, by decide, by decide⟩
theorem names_cons (v : Int) (l : List Int) : names (v :: l) = vname v ++ names l := by
  show nmG (⟨#[]⟩ ++ vname v) l = _
  rw [nil_ba, nmG_eq]
def In5 (l : List Int) : Prop := ∀ v ∈ l, 0 ≤ v ∧ v ≤ 4
theorem names_ne : ∀ {l : List Int}, In5 l → ∀ x ∈ bl (names l), x ≠ 40 ∧ x ≠ 44 ∧ x ≠ 61
  | [], _, x, hx => by simp [names, nmG, bl] at hx
  | v :: l, h, x, hx => by
    rw [names_cons, bl_app] at hx
    obtain ⟨b, e, _, n1, n2, n3⟩ := vix_vname (h v (by simp)).1 (h v (by simp)).2
    rcases List.mem_append.1 hx with hx | hx
    · rw [e] at hx
      rw [List.mem_singleton.1 hx]
      exact ⟨n1, n2, n3⟩
    · exact names_ne (fun u hu => h u (by simp [hu])) x hx
theorem pnG_names : ∀ {l : List Int}, In5 l → ∀ acc, pnG acc (bl (names l)) = some (acc ++ l)
  | [], _, acc => by simp [names, nmG, bl, pnG]
  | v :: l, h, acc => by
    obtain ⟨b, e, e2, _⟩ := vix_vname (h v (by simp)).1 (h v (by simp)).2
    rw [names_cons, bl_app, e, List.singleton_append, pnG, e2]
    simp only
    rw [pnG_names (fun u hu => h u (by simp [hu]))]
    simp
theorem lst_names : ∀ {l : List Int}, In5 l → lst (bl (names l)) = l
  | [], _ => by simp [names, nmG, bl, lst]
  | v :: l, h => by
    obtain ⟨b, e, e2, _⟩ := vix_vname (h v (by simp)).1 (h v (by simp)).2
    have := lst_names (l := l) (fun u hu => h u (by simp [hu]))
    unfold lst at this ⊢
    rw [names_cons, bl_app, e, List.singleton_append, List.filterMap_cons, e2, this]
theorem bl_par (l : List Int) : bl (par l) = 40 :: (bl (names l) ++ [41]) := by
  unfold par
  rw [bl_app, bl_app]
  rfl
theorem pN_par {l : List Int} (h : In5 l) : pN (par l) = some l := by
  have e := bl_par l
  have hs : (par l).size = (bl (names l)).length + 2 := by rw [← bl_length, e]; simp
  have hb : pnB (par l) = true := by
    unfold pnB
    rw [e, hs]
    rw [decide_eq_true (by omega), decide_eq_true (by rfl), decide_eq_true (by
      rw [← List.cons_append, List.getLast?_concat])]
    rfl
  unfold pN
  rw [if_pos hb, e, hs]
  rw [show (bl (names l)).length + 2 - 1 = (bl (names l)).length + 1 by omega, List.take_succ_cons, List.drop_succ_cons, List.drop_zero, List.take_left, pnG_names h]
  rfl
theorem lst_par {l : List Int} (h : In5 l) : lst (bl (par l)) = l := by
  rw [bl_par]
  have := lst_names h
  unfold lst at this ⊢
  rw [List.filterMap_cons, show vix 40 = none from rfl, List.filterMap_append, this]
  simp [vix]
theorem ixc_app {c : UInt8} : ∀ {p : List UInt8} (_ : ∀ x ∈ p, x ≠ c) (r : List UInt8), ixc c (p ++ c :: r) = p.length
  | [], _, r => by simp [ixc]
  | x :: p, h, r => by rw [List.cons_append, ixc, if_neg (h x (by simp)), ixc_app (fun y hy => h y (by simp [hy])) r]; rfl
theorem bl_atomT (x : At) : bl (atomT x) = bl x.1 ++ bl (par x.2) := by rw [← atomT_par, bl_app]
structure OkAt (x : At) : Prop where
  nm : nameB x.1 = true
  vs : In5 x.2
theorem nameB_let {s : ByteArray} (h : nameB s = true) : ∀ x ∈ bl s, letB x = true := by
  unfold nameB at h
  rw [Bool.and_eq_true, List.all_eq_true] at h
  exact h.2
theorem let_ne {x c : UInt8} (h : letB x = true) (hc : letB c = false) : x ≠ c := by
  rintro rfl
  rw [h] at hc
  cases hc
theorem vix_let {x : UInt8} (h : letB x = true) : vix x = none := by
  have h1 : x ≠ 88 := let_ne h (by decide)
  have h2 : x ≠ 89 := let_ne h (by decide)
  have h3 : x ≠ 90 := let_ne h (by decide)
  have h4 : x ≠ 85 := let_ne h (by decide)
  have h5 : x ≠ 86 := let_ne h (by decide)
  unfold vix
  rw [if_neg h1, if_neg h2, if_neg h3, if_neg h4, if_neg h5]
theorem ix_atomT {x : At} (h : OkAt x) : ixc 40 (bl (atomT x)) = x.1.size := by
  rw [bl_atomT, bl_par, ixc_app fun y hy => let_ne (nameB_let h.nm y hy) (by decide), bl_length]
theorem ext_atomT0 {x : At} : (atomT x).extract 0 x.1.size = x.1 := by
  apply bl_inj
  rw [ext_bs, bl_bs, bl_atomT, ← bl_length x.1, List.take_left]
  rfl
theorem ext_atomT1 {x : At} : (atomT x).extract x.1.size (atomT x).size = par x.2 := by
  apply bl_inj
  rw [ext_bs, bl_bs, ← bl_length (atomT x), List.take_length, bl_atomT, ← bl_length x.1, List.drop_left]
theorem spl_atomT {x : At} (h : OkAt x) : (splB 40 (atomT x)).getD 0 ⟨#[]⟩ = x.1 := by
  unfold splB
  rw [bl_atomT, bl_par, spl_two fun y hy => let_ne (nameB_let h.nm y hy) (by decide)]
  rfl
theorem filter_let : ∀ {l : List UInt8}, (∀ x ∈ l, letB x = true) → l.filterMap vix = []
  | [], _ => rfl
  | x :: l, h => by rw [List.filterMap_cons, vix_let (h x (by simp)), filter_let fun y hy => h y (by simp [hy])]
theorem lst_atomT {x : At} (h : OkAt x) : lst (bl (atomT x)) = x.2 := by
  have h1 := lst_par h.vs
  unfold lst at h1 ⊢
  rw [bl_atomT, List.filterMap_append, h1, filter_let (nameB_let h.nm)]
  rfl
theorem pqG_text : ∀ {ats : List At}, (∀ x ∈ ats, OkAt x) → ∀ n acc, pqG n acc (ats.map atomT) = some (mxv n (seen ats), acc ++ ats)
  | [], _, n, acc => by simp [pqG, mxv, seen]
  | x :: ats, h, n, acc => by
    have hx := h x (by simp)
    rw [List.map_cons, pqG, ix_atomT hx, ext_atomT0, ext_atomT1, pN_par hx.vs]
    simp only
    rw [pqG_text (fun y hy => h y (by simp [hy]))]
    simp [mxv, seen, List.foldl_append]
theorem pqS_text : ∀ {ats : List At}, (∀ x ∈ ats, OkAt x) → ∀ n acc, pqS n acc (ats.map atomT) = (mxv n (seen ats), acc ++ ats)
  | [], _, n, acc => by simp [pqS, mxv, seen]
  | x :: ats, h, n, acc => by
    have hx := h x (by simp)
    rw [List.map_cons, pqS, spl_atomT hx, lst_atomT hx, pqS_text (fun y hy => h y (by simp [hy]))]
    simp [mxv, seen, List.foldl_append]
theorem mxv_le : ∀ {l : List Int} {n N : Int}, n ≤ N → (∀ v ∈ l, v < N) → mxv n l ≤ N
  | [], n, N, h, _ => h
  | v :: l, n, N, h, h2 => mxv_le (l := l) (n := max n (v + 1)) (by have := h2 v (by simp); omega) (fun u hu => h2 u (by simp [hu]))
theorem mxv_ge : ∀ {l : List Int} {n : Int}, n ≤ mxv n l ∧ ∀ v ∈ l, v + 1 ≤ mxv n l
  | [], n => ⟨Int.le_refl _, by simp⟩
  | v :: l, n => by
    obtain ⟨h1, h2⟩ := mxv_ge (l := l) (n := max n (v + 1))
    have e : mxv n (v :: l) = mxv (max n (v + 1)) l := rfl
    rw [e]
    refine ⟨by omega, fun u hu => ?_⟩
    rcases List.mem_cons.1 hu with rfl | hu
    · omega
    · exact h2 u hu
structure OkQ (d : Qd) : Prop where
  out : In5 d.2.2
  ats : ∀ x ∈ d.2.1, OkAt x
  ne : d.2.1 ≠ []
  cnt : mxv 0 (seen d.2.1) = d.1
theorem vqB_ok {d : Qd} (h : vqB d = true) : OkQ d := by
  unfold vqB at h
  simp only [Bool.and_eq_true, List.all_eq_true] at h
  obtain ⟨⟨⟨⟨h1, h2⟩, h3⟩, h4⟩, h5⟩ := h
  have b1 := inB_t h1
  have b2 := inB_t h2
  have h3 := (setB_sound h3).1
  have ha : ∀ x ∈ d.2.1, OkAt x ∧ ∀ v ∈ x.2, 0 ≤ v ∧ v < d.1 := by
    intro x hx
    have := h4 x hx
    unfold atomB at this
    simp only [Bool.and_eq_true, List.all_eq_true] at this
    obtain ⟨⟨k1, k2⟩, k3⟩ := this
    have k4 : ∀ v ∈ x.2, 0 ≤ v ∧ v < d.1 := fun v hv => by have := inB_t (k3 v hv); omega
    exact ⟨⟨k1, fun v hv => by have := k4 v hv; omega⟩, k4⟩
  refine ⟨fun v hv => by have := h3 v hv; omega, fun x hx => (ha x hx).1, ?_, ?_⟩
  · intro e
    rw [e] at b2
    simp at b2
  · have hlt : ∀ v ∈ seen d.2.1, v < d.1 := by
      intro v hv
      unfold seen at hv
      obtain ⟨x, hx, hv⟩ := List.mem_flatMap.1 hv
      exact ((ha x hx).2 v hv).2
    have hle := mxv_le (n := 0) (N := d.1) (by omega) hlt
    have hmem : d.1 - 1 ∈ seen d.2.1 := by
      unfold coverB mkU at h5
      rw [List.all_eq_true] at h5
      have := h5 (decide (((d.1 - 1).toNat : Int) ∈ seen d.2.1)) (List.mem_map.2 ⟨(d.1 - 1).toNat, List.mem_range.2 (by omega), rfl⟩)
      have := of_decide_eq_true this
      rwa [Int.toNat_of_nonneg (by omega)] at this
    have := (mxv_ge (n := 0)).2 _ hmem
    omega
theorem bl_fmtQ {d : Qd} (h : vqB d = true) : bl (fmtQ d) = bl (par d.2.2) ++ 61 :: jl 44 ((d.2.1.map atomT).map bl) := by
  rw [← fmtQ_par h, joinF_acc, bl_app, bl_app, joinF_jl]
  simp only [List.append_assoc]
  rfl
theorem par_ne {l : List Int} (h : In5 l) : ∀ x ∈ bl (par l), x ≠ 44 ∧ x ≠ 61 := by
  intro x hx
  rw [bl_par] at hx
  rcases List.mem_cons.1 hx with rfl | hx
  · decide
  · rcases List.mem_append.1 hx with hx | hx
    · exact (names_ne h x hx).2
    · rw [List.mem_singleton.1 hx]; decide
theorem atomT_ne {x : At} (h : OkAt x) : ∀ y ∈ bl (atomT x), y ≠ 44 ∧ y ≠ 61 := by
  intro y hy
  rw [bl_atomT] at hy
  rcases List.mem_append.1 hy with hy | hy
  · exact ⟨let_ne (nameB_let h.nm y hy) (by decide), let_ne (nameB_let h.nm y hy) (by decide)⟩
  · exact par_ne h.vs y hy
theorem jl_mem {c y : UInt8} : ∀ {ps : List (List UInt8)}, y ∈ jl c ps → y = c ∨ ∃ p ∈ ps, y ∈ p
  | [], h => by simp [jl] at h
  | [p], h => .inr ⟨p, by simp, by simpa [jl] using h⟩
  | p :: q :: ps, h => by
    rw [jl] at h
    rcases List.mem_append.1 h with h | h
    · exact .inr ⟨p, by simp, h⟩
    · rcases List.mem_cons.1 h with h | h
      · exact .inl h
      · rcases jl_mem (ps := q :: ps) h with h | ⟨r, hr, h⟩
        · exact .inl h
        · exact .inr ⟨r, List.mem_cons_of_mem _ hr, h⟩
theorem spl_fmtQ {d : Qd} (h : vqB d = true) : splB 61 (fmtQ d) = [par d.2.2, joinF ⟨#[44]⟩ 0 ⟨#[]⟩ (d.2.1.map atomT)] := by
  have ok := vqB_ok h
  have h2 : ∀ y ∈ jl 44 ((d.2.1.map atomT).map bl), y ≠ 61 := by
    intro y hy
    rcases jl_mem hy with e | ⟨p, hp, hy⟩
    · subst e; decide
    · simp only [List.map_map, List.mem_map] at hp
      obtain ⟨x, hx, rfl⟩ := hp
      exact (atomT_ne (ok.ats x hx) y hy).2
  unfold splB
  rw [bl_fmtQ h, spl_two (fun y hy => (par_ne ok.out y hy).2), spl_none h2, List.map_cons, List.map_cons, List.map_nil, ← joinF_jl]
  rfl
theorem spl_atoms {d : Qd} (h : vqB d = true) : splB 44 (joinF ⟨#[44]⟩ 0 ⟨#[]⟩ (d.2.1.map atomT)) = d.2.1.map atomT := by
  have ok := vqB_ok h
  refine splB_joinF (by simpa using ok.ne) fun p hp y hy => ?_
  obtain ⟨x, hx, rfl⟩ := List.mem_map.1 hp
  exact (atomT_ne (ok.ats x hx) y hy).1
theorem pQ_text {d : Qd} (h : vqB d = true) : pQ (fmtQ d) = some d := by
  have ok := vqB_ok h
  unfold pQ
  rw [spl_fmtQ h]
  simp only [List.getD_cons_zero, List.getD_cons_succ, List.length_cons, List.length_nil, pN_par ok.out, spl_atoms h, pqG_text ok.ats, List.nil_append, ok.cnt, if_true]
  exact finQ_self h
theorem pQs_text {d : Qd} (h : vqB d = true) : pQs (fmtQ d) = some d := by
  have ok := vqB_ok h
  unfold pQs
  rw [spl_fmtQ h]
  simp only [List.getD_cons_zero, List.getD_cons_succ, List.length_cons, List.length_nil, lst_par ok.out, spl_atoms h, pqS_text ok.ats, List.nil_append, ok.cnt, if_true]
  exact finQ_self h
theorem pQs_eq (s : ByteArray) : pQs s = pQ s := by
  cases h : pQ s with
  | some r =>
    obtain ⟨h1, rfl⟩ := pQ_some h
    exact pQs_text h1
  | none =>
    cases h2 : pQs s with
    | none => rfl
    | some r =>
      obtain ⟨h1, rfl⟩ := pQs_some h2
      rw [pQ_text h1] at h
      cases h
end Go.Proofs.Ytfigcfajkilhiaa

/- The queries that the reference draws: those known by their text, and what is changed in them. No program in it. -/
namespace Go.Proofs.Ytfigcfajkilhiaa
open Go.RowKit
def knownQ : List ByteArray := [⟨#[40, 88, 89, 90, 41, 61, 114, 40, 88, 89, 41, 44, 115, 40, 89, 90, 41, 44, 116, 40, 90, 88, 41]⟩, ⟨#[40, 88, 89, 90, 85, 41, 61, 114, 40, 88, 89, 41, 44, 115, 40, 89, 90, 41, 44, 116, 40, 90, 85, 41, 44, 117, 40, 85, 88, 41]⟩, ⟨#[40, 88, 89, 90, 41, 61, 114, 40, 88, 89, 41, 44, 115, 40, 89, 90, 41]⟩, ⟨#[40, 88, 41, 61, 114, 40, 88, 89, 41, 44, 115, 40, 89, 90, 41, 44, 116, 40, 90, 85, 41]⟩, ⟨#[40, 88, 89, 90, 41, 61, 118, 40, 88, 89, 90, 41, 44, 114, 40, 88, 89, 41]⟩, ⟨#[40, 88, 89, 41, 61, 114, 40, 88, 89, 41, 44, 114, 40, 89, 88, 41]⟩, ⟨#[40, 88, 89, 90, 85, 41, 61, 118, 40, 88, 89, 90, 41, 44, 115, 40, 90, 85, 41, 44, 116, 40, 85, 88, 41]⟩, ⟨#[40, 88, 41, 61, 114, 40, 88, 88, 41]⟩, ⟨#[40, 88, 89, 41, 61, 114, 40, 88, 90, 41, 44, 115, 40, 90, 89, 41, 44, 114, 40, 88, 85, 41, 44, 115, 40, 85, 89, 41]⟩, ⟨#[40, 41, 61, 114, 40, 88, 89, 41, 44, 115, 40, 89, 88, 41]⟩, ⟨#[40, 88, 89, 90, 85, 86, 41, 61, 114, 40, 88, 89, 41, 44, 115, 40, 89, 90, 41, 44, 116, 40, 90, 85, 41, 44, 117, 40, 85, 86, 41]⟩]
def fewB (q : Qd) : Bool := decide (q.1 ≤ 4) || (q.2.1.any (fun a => decide (a.2 = [0, 1])) && q.2.1.any fun b => decide (b.2 = [2, 3]))
theorem fewB_ok {q : Qd} (h : fewB q = true) : FewQ q := by
  unfold fewB at h
  rw [Bool.or_eq_true, Bool.and_eq_true, decide_eq_true_eq, List.any_eq_true, List.any_eq_true] at h
  rcases h with h | ⟨⟨a, ha, ea⟩, b, hb, eb⟩
  · exact .inl h
  · exact .inr ⟨a, ha, b, hb, of_decide_eq_true ea, of_decide_eq_true eb⟩
def knownB (s : ByteArray) : Bool := match pQ s with
  | none => false
  | some q => fewB q
theorem known_all : knownQ.all knownB = true := by decide +kernel
theorem known_ok {s : ByteArray} (h : s ∈ knownQ) : ∃ q, pQ s = some q ∧ vqB q = true ∧ FewQ q := by
  have h1 := (List.all_eq_true.1 known_all) s h
  unfold knownB at h1
  split at h1
  · cases h1
  · rename_i q hq
    exact ⟨q, hq, (pQ_some hq).1, fewB_ok h1⟩
/-- few bindings, if the query is valid -/
def FewV (q : Qd) : Prop := vqB q = true → FewQ q
theorem vq_atom {n : Int} {ats : List At} {out : List Int} (h : vqB (n, ats, out) = true) : ∀ a ∈ ats, atomB n a = true := by
  unfold vqB at h
  simp only [Bool.and_eq_true] at h
  exact List.all_eq_true.1 h.1.2
theorem vq_cov {n : Int} {ats : List At} {out : List Int} (h : vqB (n, ats, out) = true) : ∀ v, 0 ≤ v → v < n → v ∈ seen ats := by
  unfold vqB at h
  simp only [Bool.and_eq_true] at h
  have k5 := h.2
  unfold coverB mkU at k5
  rw [List.all_eq_true] at k5
  intro v h0 h1
  have := k5 (decide ((v.toNat : Int) ∈ seen ats)) (List.mem_map.2 ⟨v.toNat, List.mem_range.2 (by omega), rfl⟩)
  have := of_decide_eq_true this
  rwa [Int.toNat_of_nonneg h0] at this
theorem vq_n {n : Int} {ats : List At} {out : List Int} (h : vqB (n, ats, out) = true) : 1 ≤ n ∧ n ≤ 5 := by
  unfold vqB at h
  simp only [Bool.and_eq_true] at h
  exact inB_t h.1.1.1.1
theorem atomB_in {n : Int} {a : At} (h : atomB n a = true) : (1 ≤ a.2.length ∧ a.2.length ≤ 5) ∧ ∀ v ∈ a.2, 0 ≤ v ∧ v ≤ n - 1 := by
  unfold atomB at h
  simp only [Bool.and_eq_true] at h
  have h2 := inB_t h.1.2
  exact ⟨by omega, fun v hv => inB_t (List.all_eq_true.1 h.2 v hv)⟩
theorem few_count {q : Qd} (h : vqB q = true) {n : Int} (hn : n = 0 ∨ n = 6 ∨ n = q.1 + 1) : FewV (n, q.2.1, q.2.2) := fun hv => by
  have h1 := vq_n hv
  rcases hn with rfl | rfl | e
  · omega
  · omega
  · exfalso
    have h2 := vq_n (n := q.1) (ats := q.2.1) (out := q.2.2) h
    have h3 := vq_cov hv q.1 (by omega) (by omega)
    unfold seen at h3
    obtain ⟨a, ha, hm⟩ := List.mem_flatMap.1 h3
    have := (atomB_in (vq_atom (n := q.1) (ats := q.2.1) (out := q.2.2) h a ha)).2 q.1 hm
    omega
theorem few_more {n : Int} {ats : List At} {out : List Int} (h : FewQ (n, ats, out)) (a : At) : FewQ (n, ats ++ [a], out) := by
  rcases h with h | ⟨x, hx, y, hy, ex, ey⟩
  · exact .inl h
  · exact .inr ⟨x, by simp [hx], y, by simp [hy], ex, ey⟩
theorem few_out {n : Int} {ats : List At} {out : List Int} (h : FewQ (n, ats, out)) (l : List Int) : FewQ (n, ats, l) := h
theorem mem_set_me {α : Type} {l : List α} {k : Nat} (h : k < l.length) (x : α) : x ∈ l.set k x := by
  have := List.getElem_mem (l := l.set k x) (n := k) (by simpa using h)
  rwa [List.getElem_set_self] at this
theorem few_nil {n : Int} {ats : List At} {out : List Int} {k : Nat} (hk : k < ats.length) (s : ByteArray) : FewV (n, ats.set k (s, []), out) := fun hv => by
  have := (atomB_in (vq_atom hv _ (mem_set_me hk _))).1
  simp at this
theorem few_val {n : Int} {ats : List At} {out : List Int} {k : Nat} (hk : k < ats.length) {s : ByteArray} {l : List Int} {v : Int} (hm : v ∈ l) (hv0 : v = -1 ∨ v = 5) : FewV (n, ats.set k (s, l), out) := fun hv => by
  have h1 := vq_n hv
  have := (atomB_in (vq_atom hv _ (mem_set_me hk _))).2 v hm
  omega
end Go.Proofs.Ytfigcfajkilhiaa

/- Texts divided at a byte: the program's way and the reference's. -/
namespace Go.Proofs.Ytfigcfajkilhiaa
open Go.RowKit

theorem u8_eq {a b : UInt8} (h : a = b) : ((a.toNat : Int) == (b.toNat : Int)) = true := by rw [h]; simp
theorem u8_ne {a b : UInt8} (h : a ≠ b) : ((a.toNat : Int) == (b.toNat : Int)) = false := by
  rw [beq_eq_false_iff_ne]
  intro e
  exact h (UInt8.toNat_inj.1 (by omega))
theorem u8_bnet {a b : UInt8} (h : a = b) : ((a.toNat : Int) != (b.toNat : Int)) = false := by rw [bne, u8_eq h]; rfl
theorem u8_bnef {a b : UInt8} (h : a ≠ b) : ((a.toNat : Int) != (b.toNat : Int)) = true := by rw [bne, u8_ne h]; rfl
set_option maxHeartbeats 1000000 in
theorem split_any {s : ByteArray} {c : UInt8} {w : World} (hs : s.size ≤ 1000000000) :
    Calls Try.prog 99 #[.string s, .int .u8 c.toNat] w fun e w' => ∃ v F, e = .returned v ∧ (∃ y, w' = ext w y) ∧ SV 9 1 sS w' v (splB c s) F ∧ ∀ b ∈ F, w.heap.size ≤ b := by
  go_enter Try.func99, Try.ntmps99
  go_wp2
  go_loopw [5, 6, 7] (fun v f i wr => ∃ (k n : Nat) (ds : List ByteArray) (F : List Nat), i = .int .i64 k ∧ f = .int .i64 n ∧ n ≤ k ∧ (k ≤ s.size ∧ SplI c s n k ds ∨ k = s.size + 1 ∧ ds = splB c s) ∧ SV 9 1 sS wr v ds F ∧ (∀ b ∈ F, w.heap.size ≤ b) ∧ (∃ y, wr = ext w y) ∧ ds.length ≤ k) (fun _ _ i _ => s.size + 1 - (intOf i).toNat)
  case atStart => exact ⟨0, 0, [], [], rfl, rfl, by omega, .inl ⟨by omega, SplI.start c s⟩, SV.nil, by simp, refl_ext w, by simp⟩
  case round =>
    obtain ⟨k, n, ds, F, rfl, rfl, hn, hr, hS, hF, hy, hl⟩ := hrel
    have HF := Lib.hid hF
    clear hF
    by_cases hlt : k < s.size
    · have hr : SplI c s n k ds := by
        rcases hr with h | h
        · exact h.2
        · omega
      by_cases hc : s[k] = c
      · have hq := u8_eq hc
        have HR := Lib.hid (hr.cut hlt hc)
        clear hr hc
        go_wp2_with (at_builtin; refine wpList_app1 (E := sS) rfl _ _ _ rfl tS rfl rfl rfl (by simp) (fun _ => ⟨rfl, rfl⟩) rfl (by simp [Value.oneCell']) hS (by omega) (by omega) ?_; intro v' w' F' hS' hC' hF')
        exact ⟨⟨k + 1, k + 1, _, F', by go_num, by go_num, by omega, .inl ⟨by omega, HR.out⟩, hS', newer HF.out (size_of_ext hy) hF', hC'.isExt hy HF.out, by simp; omega⟩, by simp [intOf]; omega⟩
      · have hq := u8_ne hc
        have HR := Lib.hid (hr.step hlt hn hc)
        clear hr hc
        go_wp2
        exact ⟨⟨k + 1, n, _, F, by go_num, rfl, by omega, .inl ⟨by omega, HR.out⟩, hS, HF.out, hy, by omega⟩, by simp [intOf]; omega⟩
    · by_cases hk : k = s.size
      · subst hk
        have HR := Lib.hid (show ds ++ [s.extract n s.size] = splB c s by
          rcases hr with h | h
          · exact h.2.last hlt
          · omega)
        clear hr
        go_wp2_with (at_builtin; refine wpList_app1 (E := sS) rfl _ _ _ rfl tS rfl rfl rfl (by simp) (fun _ => ⟨rfl, rfl⟩) rfl (by simp [Value.oneCell']) hS (by omega) (by omega) ?_; intro v' w' F' hS' hC' hF')
        exact ⟨⟨s.size + 1, s.size + 1, _, F', by go_num, by go_num, by omega, .inr ⟨rfl, HR.out⟩, hS', newer HF.out (size_of_ext hy) hF', hC'.isExt hy HF.out, by simpa using hl⟩, by simp [intOf]⟩
      · have HR := Lib.hid (show ds = splB c s by
          rcases hr with h | h
          · omega
          · exact h.2)
        have hk2 : s.size < k := by omega
        clear hr
        go_wp2
        go_ret
        exact ⟨_, F, rfl, hy, by rw [← HR.out]; exact hS, HF.out⟩
set_option maxHeartbeats 1000000 in
theorem l5Cut_any {s : ByteArray} {c : UInt8} {w : World} (hs : s.size ≤ 1000000000) :
    Calls Try.prog 98 #[.string s, .int .u8 c.toNat] w fun e w' => ∃ v F, e = .returned v ∧ (∃ y, w' = ext w y) ∧ SV 9 1 sS w' v (splB c s) F ∧ ∀ b ∈ F, w.heap.size ≤ b := by
  go_enter Try.func98, Try.ntmps98
  go_wp2
  go_loopw [5, 6, 7] (fun v f i wr => ∃ (k n : Nat) (ds : List ByteArray) (F : List Nat), i = .int .i64 k ∧ f = .int .i64 n ∧ n ≤ k ∧ k ≤ s.size ∧ SplI c s n k ds ∧ SV 9 1 sS wr v ds F ∧ (∀ b ∈ F, w.heap.size ≤ b) ∧ (∃ y, wr = ext w y) ∧ ds.length ≤ k) (fun _ _ i _ => s.size + 1 - (intOf i).toNat)
  case atStart => exact ⟨0, 0, [], [w.heap.size], rfl, rfl, by omega, by omega, SplI.start c s, SV.empty w, by simp, alloc_ext _ _, by simp⟩
  case round =>
    obtain ⟨k, n, ds, F, rfl, rfl, hn, hk, hr, hS, hF, hy, hl⟩ := hrel
    have HF := Lib.hid hF
    clear hF
    by_cases hlt : k < s.size
    · by_cases hc : s[k] = c
      · have hq := u8_eq hc
        have HR := Lib.hid (hr.cut hlt hc)
        clear hr hc
        go_wp2_with (at_builtin; refine wpList_app1 (E := sS) rfl _ _ _ rfl tS rfl rfl rfl (by simp) (fun _ => ⟨rfl, rfl⟩) rfl (by simp [Value.oneCell']) hS (by omega) (by omega) ?_; intro v' w' F' hS' hC' hF')
        exact ⟨⟨k + 1, k + 1, _, F', by go_num, by go_num, by omega, by omega, HR.out, hS', newer HF.out (size_of_ext hy) hF', hC'.isExt hy HF.out, by simp; omega⟩, by simp [intOf]; omega⟩
      · have hq := u8_ne hc
        have HR := Lib.hid (hr.step hlt hn hc)
        clear hr hc
        go_wp2
        exact ⟨⟨k + 1, n, _, F, by go_num, rfl, by omega, by omega, HR.out, hS, HF.out, hy, by omega⟩, by simp [intOf]; omega⟩
    · have hk : k = s.size := by omega
      subst hk
      have HR := Lib.hid (hr.last hlt)
      clear hr
      go_wp2_with (at_builtin; refine wpList_app1 (E := sS) rfl _ _ _ rfl tS rfl rfl rfl (by simp) (fun _ => ⟨rfl, rfl⟩) rfl (by simp [Value.oneCell']) hS (by omega) (by omega) ?_; intro v' w' F' hS' hC' hF')
      go_ret
      exact ⟨_, F', rfl, hC'.isExt hy HF.out, by rw [← HR.out]; exact hS', newer HF.out (size_of_ext hy) hF'⟩
end Go.Proofs.Ytfigcfajkilhiaa

/- Names of variables read from text; the program's way and the reference's. -/
namespace Go.Proofs.Ytfigcfajkilhiaa
open Go.RowKit

theorem vix_bd {b : UInt8} {v : Int} (h : vix b = some v) : 0 ≤ v ∧ v ≤ 4 := by
  unfold vix at h
  repeat' split at h
  all_goals first | (injection h with h; omega) | cases h
theorem vix_inj {a b : UInt8} {v : Int} (h : vix a = some v) (h' : vix b = some v) : a = b := by
  unfold vix at h h'
  repeat' split at h
  all_goals first | cases h | skip
  all_goals
    repeat' split at h'
  all_goals first | cases h' | skip
  all_goals simp_all
theorem vname_eq {s : ByteArray} {i : Nat} {v : Int} (hi : i < s.size) (h0 : 0 ≤ v) (h4 : v ≤ 4) : vname v = s.extract i (i + 1) ↔ vix s[i] = some v := by
  obtain ⟨b, e1, e2, _⟩ := vix_vname h0 h4
  have e3 : bl (s.extract i (i + 1)) = [s[i]] := by
    rw [ext_bs, bl_bs, List.take_succ_eq_append_getElem (by rw [bl_length]; exact hi), List.drop_left' (by simp; rw [bl_length]; omega), bl_get s hi]
  constructor
  · intro e
    have := congrArg bl e
    rw [e1, e3] at this
    injection this with this
    rw [← this]; exact e2
  · intro e
    apply bl_inj
    rw [e1, e3, vix_inj e2 e]
def vv (b : UInt8) (k : Nat) : Int := match vix b with
  | some j => if j < k then j else -1
  | none => -1
theorem vv_zero (b : UInt8) : vv b 0 = -1 := by
  unfold vv
  cases h : vix b with
  | none => rfl
  | some j => have := vix_bd h; simp only; rw [if_neg (by simp; omega)]
theorem vv_hit {b : UInt8} {k : Nat} (h : vix b = some (k : Int)) : vv b (k + 1) = k := by
  unfold vv
  rw [h]
  simp only
  rw [if_pos (by omega)]
theorem vv_miss {b : UInt8} {k : Nat} (h : ¬ vix b = some (k : Int)) : vv b (k + 1) = vv b k := by
  unfold vv
  cases e : vix b with
  | none => rfl
  | some j =>
    have hj : j ≠ k := fun e2 => h (by rw [e, e2])
    simp only
    by_cases hlt : j < k
    · rw [if_pos hlt, if_pos (by omega)]
    · rw [if_neg hlt, if_neg (by omega)]
theorem vv_some {b : UInt8} {v : Int} (h : vix b = some v) : vv b 5 = v := by
  unfold vv
  have := vix_bd h
  rw [h]
  simp only
  rw [if_pos (by omega)]
theorem vv_none {b : UInt8} (h : vix b = none) : vv b 5 = -1 := by unfold vv; rw [h]
theorem vv_bd (b : UInt8) (k : Nat) : -1 ≤ vv b k ∧ vv b k ≤ 4 := by
  unfold vv
  cases h : vix b with
  | none => simp
  | some j => have := vix_bd h; simp only; split <;> omega
theorem pnG_in : ∀ {l : List UInt8} {acc r : List Int}, pnG acc l = some r → In5 acc → In5 r ∧ r.length = acc.length + l.length
  | [], acc, r, h, ha => by
    rw [pnG] at h
    injection h with h
    subst h
    exact ⟨ha, by simp⟩
  | b :: l, acc, r, h, ha => by
    rw [pnG] at h
    cases e : vix b with
    | none => rw [e] at h; cases h
    | some v =>
      rw [e] at h
      have := vix_bd e
      obtain ⟨h1, h2⟩ := pnG_in (acc := acc ++ [v]) h (fun u hu => by
        rcases List.mem_append.1 hu with hu | hu
        · exact ha u hu
        · rw [List.mem_singleton.1 hu]; exact this)
      refine ⟨h1, ?_⟩
      rw [h2]
      simp
      omega
theorem pN_in {s : ByteArray} {r : List Int} (h : pN s = some r) : In5 r ∧ r.length ≤ s.size := by
  unfold pN at h
  split at h
  · obtain ⟨h1, h2⟩ := pnG_in h (by simp [In5])
    refine ⟨h1, ?_⟩
    rw [h2]
    simp
    rw [bl_length]
    omega
  · cases h
theorem mid_step {s : ByteArray} {k : Nat} (h : k + 1 < s.size) : ((bl s).take (s.size - 1)).drop k = s[k] :: ((bl s).take (s.size - 1)).drop (k + 1) := by
  rw [List.drop_eq_getElem_cons (by simp; rw [bl_length]; omega)]
  congr 1
  rw [List.getElem_take]
  exact bl_get s (by omega)
theorem mid_end {s : ByteArray} {k : Nat} (h : ¬ k + 1 < s.size) : ((bl s).take (s.size - 1)).drop k = [] := List.drop_eq_nil_of_le (by simp; omega)
theorem bl_head {s : ByteArray} (h : 0 < s.size) : (bl s).head? = some s[0] := by
  rw [List.head?_eq_getElem?, List.getElem?_eq_getElem (by rw [bl_length]; exact h), bl_get s h]
theorem bl_last {s : ByteArray} (h : 0 < s.size) : (bl s).getLast? = some (s[s.size - 1]'(by omega)) := by
  rw [List.getLast?_eq_getElem?, List.getElem?_eq_getElem (by rw [bl_length]; omega)]
  congr 1
def PnRes (s : ByteArray) (w : World) (e : Ending) (w' : World) : Prop := ∃ v F, e = .returned (.tuple #[v, .bool (pN s).isSome]) ∧ (∃ y, w' = ext w y) ∧ SV 3 1 sI w' v ((pN s).getD []) F ∧ ∀ b ∈ F, w.heap.size ≤ b
theorem lst_step {s : ByteArray} {k : Nat} (h : k < s.size) : lst (bl (s.extract 0 (k + 1))) = lst (bl (s.extract 0 k)) ++ (match vix s[k] with | some v => [v] | none => []) := by
  have e : bl (s.extract 0 (k + 1)) = bl (s.extract 0 k) ++ [s[k]] := by
    rw [ext_bs, ext_bs, bl_bs, bl_bs, List.drop_zero, List.drop_zero, List.take_succ_eq_append_getElem (by rw [bl_length]; exact h), bl_get s h]
  rw [e]
  unfold lst
  rw [List.filterMap_append]
  congr 1
  cases e2 : vix s[k] <;> simp [e2]
theorem lst_len (l : List UInt8) : (lst l).length ≤ l.length := List.length_filterMap_le _ _
theorem lst_in (l : List UInt8) : In5 (lst l) := by
  intro v hv
  unfold lst at hv
  obtain ⟨b, _, hb⟩ := List.mem_filterMap.1 hv
  exact vix_bd hb
def ww (b : UInt8) (k : Nat) : List Int := match vix b with
  | some j => if j < k then [j] else []
  | none => []
theorem ww_zero (b : UInt8) : ww b 0 = [] := by
  unfold ww
  cases h : vix b with
  | none => rfl
  | some j => have := vix_bd h; simp only; rw [if_neg (by simp; omega)]
theorem ww_hit {b : UInt8} {k : Nat} (h : vix b = some (k : Int)) : ww b (k + 1) = ww b k ++ [(k : Int)] := by
  unfold ww
  rw [h]
  simp only
  rw [if_pos (by omega), if_neg (by omega)]
  rfl
theorem ww_miss {b : UInt8} {k : Nat} (h : ¬ vix b = some (k : Int)) : ww b (k + 1) = ww b k := by
  unfold ww
  cases e : vix b with
  | none => rfl
  | some j =>
    have hj : j ≠ k := fun e2 => h (by rw [e, e2])
    simp only
    by_cases hlt : j < k
    · rw [if_pos hlt, if_pos (by omega)]
    · rw [if_neg hlt, if_neg (by omega)]
theorem ww_five (b : UInt8) : ww b 5 = (match vix b with | some v => [v] | none => []) := by
  unfold ww
  cases e : vix b with
  | none => rfl
  | some j => have := vix_bd e; simp only; rw [if_pos (by omega)]
theorem ww_len (b : UInt8) (k : Nat) : (ww b k).length ≤ 1 := by
  unfold ww
  cases e : vix b with
  | none => simp
  | some j => simp only; split <;> simp
set_option maxRecDepth 100000 in
set_option maxHeartbeats 4000000 in
theorem l7List_any {s : ByteArray} {w : World} (hs : s.size ≤ 1000000000) : Calls Try.prog 199 #[.string s] w fun e w' => ∃ v F, e = .returned v ∧ (∃ y, w' = ext w y) ∧ SV 3 1 sI w' v (lst (bl s)) F ∧ ∀ b ∈ F, w.heap.size ≤ b := by
  go_enter Try.func199, Try.ntmps199
  go_wp2_with fail
  go_loopw [3, 4] (fun v i wr => ∃ (k : Nat) (F : List Nat), i = .int .i64 k ∧ k ≤ s.size ∧ SV 3 1 sI wr v (lst (bl (s.extract 0 k))) F ∧ (∀ b ∈ F, w.heap.size ≤ b) ∧ ∃ y, wr = ext w y) (fun _ i _ => s.size - (intOf i).toNat)
  case atStart => exact ⟨0, [w.heap.size], rfl, by omega, by rw [ext_bs, bl_bs]; exact SV.empty w, by simp, alloc_ext _ _⟩
  case round =>
    obtain ⟨k, F, rfl, hk, hS, hF, hy⟩ := hrel
    by_cases hlt : k < s.size
    · have HL := Lib.hid (lst_step hlt)
      have hlen : (lst (bl (s.extract 0 k))).length ≤ k := Nat.le_trans (lst_len _) (by rw [bl_length, ByteArray.size_extract]; omega)
      obtain ⟨l0, hl0⟩ : ∃ l, lst (bl (s.extract 0 k)) = l := ⟨_, rfl⟩
      have HL0 := Lib.hid hl0
      rw [hl0] at hS hlen
      obtain ⟨b, hb⟩ : ∃ b, s[k] = b := ⟨_, rfl⟩
      have HB := Lib.hid hb
      have HZ := Lib.hid (ww_zero b)
      have HS := Lib.hid hS
      have HF := Lib.hid hF
      clear hl0 hb hS hF
      go_wp2_with fail
      go_loopw [3, 5] (fun v i vs => ∃ (j : Nat) (G : List Nat), i = .int .i64 j ∧ j ≤ 5 ∧ SV 3 1 sI vs v (l0 ++ ww b j) G ∧ (∀ b ∈ G, w.heap.size ≤ b) ∧ ∃ y, vs = ext w y) (fun _ i _ => 5 - (intOf i).toNat)
      case atStart => exact ⟨0, F, rfl, by omega, by rw [HZ.out, List.append_nil]; exact HS.out, HF.out, hy⟩
      case round =>
        obtain ⟨j, G, rfl, hj5, hG, hGF, hy2⟩ := hrel
        have HG := Lib.hid hG
        have HGF := Lib.hid hGF
        clear hGF
        by_cases hjl : j < 5
        · have hve := vname_eq (v := (j : Int)) hlt (by omega) (by omega)
          rw [HB.out] at hve
          by_cases hit : vix b = some (j : Int)
          · have q3 := str_beqt (hve.2 hit)
            have HV := Lib.hid (ww_hit hit)
            have hwl := ww_len b j
            have hll : (l0 ++ ww b j).length + 1 ≤ 2000000000 := by rw [List.length_append]; omega
            obtain ⟨A, c, rfl, _, _⟩ := hG.form
            clear hve hit hG hwl
            go_wp2_with fail
            refine wp_region_ext (by kernel_rfl) (by kernel_rfl) ?_
            repeat (go_big_quiet_step ((go_at_call 200; exact quietS (specVariableName_any _ _))))
            refine wpQuiet_nil ?_
            rintro _ ⟨z, rfl⟩
            go_wp2_with (at_builtin; refine wpList_app1 (E := sI) (d := (j : Int)) rfl _ _ _ rfl tI rfl rfl rfl (by simp) (fun _ => ⟨rfl, rfl⟩) rfl (by simp [Value.oneCell']) (HG.out.toExt ⟨z, rfl⟩) hll (by omega) ?_; intro v' w' F' hS' hC' hF')
            exact ⟨⟨j + 1, F', by go_num, by omega, by rw [HV.out, ← List.append_assoc]; exact hS', newer HGF.out (size_of_ext (trans_ext hy2 ⟨z, rfl⟩)) hF', hC'.isExt (trans_ext hy2 ⟨z, rfl⟩) HGF.out⟩, by simp [intOf]; omega⟩
          · have q3 := str_beqf (fun e => hit (hve.1 e))
            have HV := Lib.hid (ww_miss hit)
            clear hve hit hG
            go_wp2_with fail
            refine wp_region_ext (by kernel_rfl) (by kernel_rfl) ?_
            repeat (go_big_quiet_step ((go_at_call 200; exact quietS (specVariableName_any _ _))))
            refine wpQuiet_nil ?_
            rintro _ ⟨z, rfl⟩
            go_wp2
            exact ⟨⟨j + 1, G, by go_num, by omega, by rw [HV.out]; exact HG.out.toExt ⟨z, rfl⟩, HGF.out, trans_ext hy2 ⟨z, rfl⟩⟩, by simp [intOf]; omega⟩
        · obtain rfl : j = 5 := by omega
          have HV := Lib.hid (ww_five b)
          clear hG
          go_wp2
          exact ⟨⟨k + 1, G, by go_num, by omega, by rw [HL.out, HL0.out, HB.out, ← HV.out]; exact HG.out, HGF.out, hy2⟩, by simp [intOf]; omega⟩
    · obtain rfl : k = s.size := by omega
      have e : s.extract 0 s.size = s := by apply bl_inj; rw [ext_bs, bl_bs, List.drop_zero, List.take_of_length_le (by rw [bl_length]; omega)]
      rw [e] at hS
      clear e
      go_wp2
      go_ret
      exact ⟨_, F, rfl, hy, hS, hF⟩
end Go.Proofs.Ytfigcfajkilhiaa

/- Texts divided at a byte: the pieces read, the calls with the byte as a number. -/
namespace Go.Proofs.Ytfigcfajkilhiaa
open Go.RowKit

theorem isEmpty_yes {s : ByteArray} (h : s.size = 0) : s.toList.isEmpty = true := by
  rw [ByteArray.toList_eq, List.isEmpty_iff]
  apply List.eq_nil_of_length_eq_zero
  rw [Array.length_toList]
  exact h
theorem size_zero {s : ByteArray} (h : s.size = 0) : bl s = [] := List.eq_nil_of_length_eq_zero (by rw [bl_length]; exact h)
theorem RV.atS2 {w : World} {A : Option Addr} {xs : List ByteArray} {p q : ByteArray} (h : RS w A xs) (h1 : 1 < xs.length) (hp : xs.getD 0 ⟨#[]⟩ = p) (hq : xs.getD 1 ⟨#[]⟩ = q) : ∃ b o, A = some ⟨b, o, none⟩ ∧ b < w.heap.size ∧ w.cell? ⟨b, o, none⟩ = some (.string p) ∧ w.cell? ⟨b, o + 1, none⟩ = some (.string q) := by
  obtain ⟨b, o, e, hb, hc⟩ := h.atS (k := 0) (by omega)
  obtain ⟨b', o', e', _, hc'⟩ := h.atS h1
  rw [e] at e'
  injection e' with e'
  injection e' with e1 e2
  subst e1 e2 hp hq
  refine ⟨b, o, e, hb, ?_, ?_⟩
  · rw [show xs.getD 0 ⟨#[]⟩ = xs[0] by simp [List.getD_eq_getElem?_getD, show 0 < xs.length by omega]]; exact hc
  · rw [show xs.getD 1 ⟨#[]⟩ = xs[1] by simp [List.getD_eq_getElem?_getD, h1]]; exact hc'
theorem RV.atS1 {w : World} {A : Option Addr} {xs : List ByteArray} {p : ByteArray} (h : RS w A xs) (h1 : 0 < xs.length) (hp : xs.getD 0 ⟨#[]⟩ = p) : ∃ b o, A = some ⟨b, o, none⟩ ∧ b < w.heap.size ∧ w.cell? ⟨b, o, none⟩ = some (.string p) := by
  obtain ⟨b, o, e, hb, hc⟩ := h.atS h1
  subst hp
  refine ⟨b, o, e, hb, ?_⟩
  rw [show xs.getD 0 ⟨#[]⟩ = xs[0] by simp [List.getD_eq_getElem?_getD, h1]]; exact hc
theorem splB_getD (c : UInt8) (s : ByteArray) (k : Nat) (hs : s.size ≤ 1000000000) : ((splB c s).getD k ⟨#[]⟩).size ≤ 1000000000 := by
  by_cases h : k < (splB c s).length
  · rw [show (splB c s).getD k ⟨#[]⟩ = (splB c s)[k] by simp [List.getD_eq_getElem?_getD, h]]
    exact Nat.le_trans (splB_piece (List.getElem_mem h)) hs
  · rw [show (splB c s).getD k ⟨#[]⟩ = ⟨#[]⟩ by simp [List.getD_eq_getElem?_getD, Nat.le_of_not_lt h]]
    decide
theorem splB_empty {c : UInt8} {s : ByteArray} (h : s.size = 0) : splB c s = [⟨#[]⟩] := by
  rw [splB, size_zero h]
  rfl
theorem split_v {s : ByteArray} {c : UInt8} {w : World} {n : Nat} (hs : s.size ≤ 1000000000) (hn : (splB c s).length = n) :
    Calls Try.prog 99 #[.string s, .int .u8 c.toNat] w fun e w' => ∃ A cap, e = .returned (.slice A n cap) ∧ (∃ y, w' = ext w y) ∧ RS w' A (splB c s) := by
  subst hn
  refine (split_any hs).mono ?_
  rintro e w' ⟨v, F, rfl, hx, hS, _⟩
  obtain ⟨A, cap, rfl, _, _, r⟩ := hS.view sS_v
  exact ⟨A, cap, rfl, hx, r⟩
theorem split_c {s : ByteArray} (m : Int) (c : UInt8) {w : World} {n : Nat} (hs : s.size ≤ 1000000000) (hn : (splB c s).length = n) (hm : (c.toNat : Int) = m) :
    Calls Try.prog 99 #[.string s, .int .u8 m] w fun e w' => ∃ A cap, e = .returned (.slice A n cap) ∧ (∃ y, w' = ext w y) ∧ RS w' A (splB c s) := by
  subst hm
  exact split_v hs hn
theorem split_m {s : ByteArray} (m : Int) (c : UInt8) {w : World} (hs : s.size ≤ 1000000000) (hm : (c.toNat : Int) = m) :
    Calls Try.prog 99 #[.string s, .int .u8 m] w fun e w' => ∃ v F, e = .returned v ∧ (∃ y, w' = ext w y) ∧ SV 9 1 sS w' v (splB c s) F ∧ ∀ b ∈ F, w.heap.size ≤ b := by
  subst hm
  exact split_any hs
theorem l5Cut_m {s : ByteArray} (m : Int) (c : UInt8) {w : World} (hs : s.size ≤ 1000000000) (hm : (c.toNat : Int) = m) :
    Calls Try.prog 98 #[.string s, .int .u8 m] w fun e w' => ∃ v F, e = .returned v ∧ (∃ y, w' = ext w y) ∧ SV 9 1 sS w' v (splB c s) F ∧ ∀ b ∈ F, w.heap.size ≤ b := by
  subst hm
  exact l5Cut_any hs
end Go.Proofs.Ytfigcfajkilhiaa

/- Queries read from text: the program's way. -/
namespace Go.Proofs.Ytfigcfajkilhiaa
open Go.RowKit
attribute [local go_sem ↓] Go.wp_at_zero Go.wp_at_succ

def zQ : Qd := (0, ([], []))
def PqRes (s : ByteArray) (w : World) (e : Ending) (w' : World) : Prop := ∃ v0 v1 v2 F, e = .returned (.tuple #[.agg #[v0, v1, v2], .bool (pQ s).isSome]) ∧ (∃ y, w' = ext w y) ∧ sQ w' [v0, v1, v2] ((pQ s).getD zQ) F ∧ F.Nodup ∧ ∀ b ∈ F, w.heap.size ≤ b
theorem pqG_step {n : Int} {ats : List At} {xs : List ByteArray} {k : Nat} (h : k < xs.length) : pqG n ats (xs.drop k) = (match pN (xs[k].extract (ixc 40 (bl xs[k])) xs[k].size) with | none => none | some vs => pqG (mxv n vs) (ats ++ [(xs[k].extract 0 (ixc 40 (bl xs[k])), vs)]) (xs.drop (k + 1))) := by
  rw [List.drop_eq_getElem_cons h, pqG] <;> rfl
theorem pqG_end {n : Int} {ats : List At} {xs : List ByteArray} {k : Nat} (h : ¬ k < xs.length) : pqG n ats (xs.drop k) = some (n, ats) := by
  rw [List.drop_eq_nil_of_le (by omega), pqG]
theorem ixB_step {s : ByteArray} {k : Nat} (h : k < s.size) (hc : s[k] ≠ 40) : k + ixc 40 ((bl s).drop k) = k + 1 + ixc 40 ((bl s).drop (k + 1)) := by
  rw [List.drop_eq_getElem_cons (by rw [bl_length]; exact h), bl_get s h, ixc, if_neg hc]
  omega
theorem ixB_hit {s : ByteArray} {k : Nat} (h : k < s.size) (hc : s[k] = 40) : k + ixc 40 ((bl s).drop k) = k := by
  rw [List.drop_eq_getElem_cons (by rw [bl_length]; exact h), bl_get s h, ixc, if_pos hc]
  omega
theorem ixB_end {s : ByteArray} {k : Nat} (h : ¬ k < s.size) : k + ixc 40 ((bl s).drop k) = k := by
  rw [List.drop_eq_nil_of_le (by rw [bl_length]; omega), ixc]
  omega
theorem mxv_step {n : Int} {vs : List Int} {m : Nat} (h : m < vs.length) : mxv n (vs.drop m) = mxv (max n (vs[m] + 1)) (vs.drop (m + 1)) := by
  rw [List.drop_eq_getElem_cons h]
  rfl
theorem mxv_end {n : Int} {vs : List Int} {m : Nat} (h : ¬ m < vs.length) : mxv n (vs.drop m) = n := by
  rw [List.drop_eq_nil_of_le (by omega)]
  rfl
theorem zQ_own (w : World) : sQ w [.int .i64 0, .slice none 0 0, .slice none 0 0] zQ [] := by
  exact ⟨[.int .i64 0], [.slice none 0 0, .slice none 0 0], [], [], rfl, rfl, ⟨rfl, rfl⟩, ⟨[.slice none 0 0], [.slice none 0 0], [], [], rfl, rfl, ⟨_, rfl, SV.nil⟩, ⟨_, rfl, SV.nil⟩, rfl⟩, rfl⟩
end Go.Proofs.Ytfigcfajkilhiaa

/- Queries read from text: the reference's way. -/
namespace Go.Proofs.Ytfigcfajkilhiaa
open Go.RowKit
attribute [local go_sem ↓] Go.wp_at_zero Go.wp_at_succ

theorem pqS_step {n : Int} {ats : List At} {xs : List ByteArray} {k : Nat} (h : k < xs.length) : pqS n ats (xs.drop k) = pqS (mxv n (lst (bl xs[k]))) (ats ++ [((splB 40 xs[k]).getD 0 ⟨#[]⟩, lst (bl xs[k]))]) (xs.drop (k + 1)) := by
  rw [List.drop_eq_getElem_cons h, pqS]
theorem pqS_end {n : Int} {ats : List At} {xs : List ByteArray} {k : Nat} (h : ¬ k < xs.length) : pqS n ats (xs.drop k) = (n, ats) := by
  rw [List.drop_eq_nil_of_le (by omega), pqS]
def uu (n : Int) (b : UInt8) (i : Int) : Int := match vix b with
  | some v => if n ≤ v ∧ v < i then v + 1 else n
  | none => n
theorem uu_zero (n : Int) (b : UInt8) : uu n b n = n := by
  unfold uu
  cases vix b with
  | none => rfl
  | some v => simp only; rw [if_neg (by omega)]
theorem uu_hit {n i : Int} {b : UInt8} (h : vix b = some i) (hn : n ≤ i) : uu n b (i + 1) = i + 1 := by
  unfold uu
  rw [h]
  simp only
  rw [if_pos (by omega)]
theorem uu_miss {n i : Int} {b : UInt8} (h : ¬ vix b = some i) : uu n b (i + 1) = uu n b i := by
  unfold uu
  cases e : vix b with
  | none => rfl
  | some v =>
    have hv : v ≠ i := fun e2 => h (by rw [e, e2])
    simp only
    by_cases hlt : n ≤ v ∧ v < i
    · rw [if_pos hlt, if_pos (by omega)]
    · rw [if_neg hlt, if_neg (by omega)]
theorem uu_bd {n i : Int} {b : UInt8} (h0 : 0 ≤ n) (h5 : n ≤ 5) : 0 ≤ uu n b i ∧ uu n b i ≤ 5 := by
  unfold uu
  cases e : vix b with
  | none => exact ⟨h0, h5⟩
  | some v => have := vix_bd e; simp only; split <;> omega
theorem uu_five {n : Int} {b : UInt8} (l : List UInt8) : mxv (uu n b 5) (lst l) = mxv n (lst (b :: l)) := by
  unfold uu lst
  rw [List.filterMap_cons]
  cases e : vix b with
  | none => rfl
  | some v =>
    have := vix_bd e
    simp only
    show _ = mxv (max n (v + 1)) _
    congr 1
    split <;> omega
theorem lstB_step {s : ByteArray} {k : Nat} (h : k < s.size) : (bl s).drop k = s[k] :: (bl s).drop (k + 1) := by
  rw [List.drop_eq_getElem_cons (by rw [bl_length]; exact h), bl_get s h]
def PqsRes (s : ByteArray) (w : World) (e : Ending) (w' : World) : Prop := PqRes s w e w'
set_option maxRecDepth 100000 in
set_option maxHeartbeats 16000000 in
theorem specParseQuery_any {s : ByteArray} {w : World} (hs : s.size ≤ 1048576) : Calls Try.prog 194 #[.string s] w (PqRes s w) := by
  have hpos := splB_pos 61 s
  obtain ⟨p, hp⟩ : ∃ p, (splB 61 s).getD 0 ⟨#[]⟩ = p := ⟨_, rfl⟩
  have HP := Lib.hid hp
  have hps : p.size ≤ s.size := by
    rw [← hp, show (splB 61 s).getD 0 ⟨#[]⟩ = (splB 61 s)[0] by simp [List.getD_eq_getElem?_getD, hpos]]
    exact splB_piece (List.getElem_mem hpos)
  obtain ⟨ws, hws⟩ : ∃ ws, splB 61 s = ws := ⟨_, rfl⟩
  have HW := Lib.hid hws
  rw [hws] at hpos HP
  have hw61 : ws.length ≤ s.size + 1 := by rw [← hws]; exact splB_length 61 s
  clear hp hws
  go_enter Try.func194, Try.ntmps194
  go_upto_region 1 with fail
  refine wp_name ?_
  intro W hW
  have xW : ∃ y, W = ext w y := by rw [hW.out]; exact (by refine x'z ?_; repeat (with_reducible (first | apply x'a | apply x'b | exact x'c (by assumption) | refine x'd ?_ (by assumption) | apply x'e | apply x'f | apply x'g | apply x'h | apply x'i | apply x'j | apply x'k | apply x'l | apply x'm | assumption | (refine x'n ?_; omega) | omega)))
  have BW0 : BoxAt W (w.heap.size) #[.int .i64 0, .slice none 0 0, .slice none 0 0] := by rw [hW.out]; refine ⟨?_, fun j => ?_, fun j => ?_⟩ <;> go_simp
  obtain ⟨lW0, bW0, fW0⟩ := BW0
  have cW0_0 : W.cell? ⟨w.heap.size, 0, none⟩ = some (.int .i64 0) := bW0 0
  have cW0_1 : W.cell? ⟨w.heap.size, 1, none⟩ = some (.slice none 0 0) := bW0 1
  have cW0_2 : W.cell? ⟨w.heap.size, 2, none⟩ = some (.slice none 0 0) := bW0 2
  clear hW
  have RW : BoxAt W w.heap.size #[.int .i64 0, .slice none 0 0, .slice none 0 0] := ⟨lW0, bW0, fW0⟩
  clear bW0 fW0 cW0_0 cW0_1 cW0_2
  go_wp2_with fail
  refine (l5Cut_m 61 61 (by omega) (by decide)).mono ?_
  rintro e w1 ⟨vw, Fw, rfl, hx1, hSw, hFw⟩
  rw [HW.out] at hSw
  obtain ⟨A1, c1, rfl, _, _, r1⟩ := hSw.view sS_v
  have hx01 := trans_ext xW hx1
  have R1 := RW.toExt hx1
  have hzw1 : w.heap.size < w1.heap.size := R1.1
  obtain ⟨b1, o1, rfl, hb1, hc1⟩ := r1.atS1 hpos HP.out
  clear hSw hFw RW lW0
  by_cases hl : ws.length = 2
  · have q1 : ((ws.length : Int) != 2) = false := by simp [hl]
    have h2w : 1 < ws.length := by omega
    obtain ⟨p2, hp2⟩ : ∃ p, ws.getD 1 ⟨#[]⟩ = p := ⟨_, rfl⟩
    have hps2 : p2.size ≤ s.size := by
      rw [← hp2, show ws.getD 1 ⟨#[]⟩ = ws[1] by simp [List.getD_eq_getElem?_getD, h2w]]
      have := splB_piece (c := 61) (s := s) (p := ws[1]) (by rw [HW.out]; exact List.getElem_mem h2w)
      exact this
    have HP2 := Lib.hid hp2
    have HE := Lib.hid (show pQ s = finQ ((pqS 0 [] (splB 44 p2)).1, (pqS 0 [] (splB 44 p2)).2, lst (bl p)) s by
      rw [← pQs_eq]
      unfold pQs
      rw [HW.out, HP.out, hp2]
      rw [if_pos hl])
    clear hp2 hl
    go_wp2_with fail
    refine (l7List_any (by omega)).mono ?_
    rintro e w2 ⟨vo, Fo, rfl, hx2, hSo, hFo⟩
    have hol : (lst (bl p)).length ≤ s.size := Nat.le_trans (lst_len _) (by rw [bl_length]; exact hps)
    have hin := lst_in (bl p)
    obtain ⟨out, hout⟩ : ∃ o, lst (bl p) = o := ⟨_, rfl⟩
    rw [hout] at HE hSo hol hin
    obtain ⟨Ao, co, rfl, _, _⟩ := hSo.form
    have hx02 := trans_ext hx01 hx2
    have r2 := r1.toExt hx2
    have R2 := R1.toExt hx2
    obtain ⟨l2, k2, k2', k2'', f2⟩ := box3 R2
    clear hout R1
    go_upto_region 5 with fail
    refine wp_name ?_
    intro W3 hW3
    have x3 : ∃ y, W3 = ext w2 y := by rw [hW3.out]; exact (by refine x'z ?_; repeat (with_reducible (first | apply x'a | apply x'b | exact x'c (by assumption) | refine x'd ?_ (by assumption) | apply x'e | apply x'f | apply x'g | apply x'h | apply x'i | apply x'j | apply x'k | apply x'l | apply x'm | assumption | (refine x'n ?_; omega) | omega)))
    have B7 : BoxAt W3 w2.heap.size #[.int .i64 0, .slice none 0 0, .slice Ao out.length co] := by rw [hW3.out]; exact (by repeat (with_reducible (first | assumption | exact BoxAt.new _ _ _ | apply BoxAt.set3 | refine BoxAt.set3' ?_ (by omega) | apply BoxAt.set30 | apply BoxAt.set31 | apply BoxAt.set32 | apply BoxAt.set2 | refine BoxAt.set2' ?_ (by omega) | apply BoxAt.setP0 | apply BoxAt.setP1 | refine BoxAt.setO ?_ (by omega) | refine BoxAt.alloc ?_ _ | refine BoxAt.drew ?_ | refine BoxAt.toExt ?_ (by assumption))))
    have hb7 : w.heap.size < w2.heap.size := l2
    have hFo2 := hSo.lt
    have So3 := hSo.toExt x3
    have R3 := R2.toExt x3
    have r3 := r2.toExt x3
    have hx03 := trans_ext hx02 x3
    obtain ⟨b7, q7⟩ : ∃ b, w2.heap.size = b := ⟨_, rfl⟩
    rw [q7] at B7 hb7 hFo2 ⊢
    have hb7w : b7 < W3.heap.size := B7.1
    clear hW3 x3 q7 R2 r1 r2 hSo l2 k2 k2' k2'' f2 hb1 hc1 hx1 hx2 hx01 hx02 xW
    obtain ⟨b1', o1', e1, hb1, hc1⟩ := r3.atS h2w
    injection e1 with e1
    injection e1 with e1 e2
    subst e1 e2
    rw [show ws[1] = p2 by rw [← HP2.out]; simp [List.getD_eq_getElem?_getD, h2w]] at hc1
    go_wp2_with fail
    refine (l5Cut_m 44 44 (by omega) (by decide)).mono ?_
    rintro e w4 ⟨vx, Fx, rfl, hx4, hSx, hFx⟩
    obtain ⟨xs, hxs⟩ : ∃ xs, splB 44 p2 = xs := ⟨_, rfl⟩
    have hxl : xs.length ≤ p2.size + 1 := by rw [← hxs]; exact splB_length 44 p2
    have hxp : ∀ x ∈ xs, x.size ≤ p2.size := by rw [← hxs]; exact fun x hx => splB_piece hx
    rw [hxs] at hSx HE
    obtain ⟨Ax, cx, rfl, _, _⟩ := hSx.form
    have B74 := B7.toExt hx4
    have So4 := So3.toExt hx4
    have R4 := R3.toExt hx4
    have HX4 := Lib.hid (trans_ext hx03 hx4)
    have hz4 := size_of_ext hx4
    have h7x : ∀ b ∈ Fx, b ∉ [b7] := fun b hb h => by have := hFx b hb; rw [List.mem_singleton.1 h] at this; omega
    have h7o : ∀ b ∈ Fo, b ∉ [b7] := fun b hb h => by have := hFo2 b hb; rw [List.mem_singleton.1 h] at this; omega
    have HSx := Lib.hid hSx
    have HSo := Lib.hid So4
    have H7x := Lib.hid h7x
    have H7o := Lib.hid h7o
    have HR4 := Lib.hid R4
    have HXP := Lib.hid hxp
    have HB74 := Lib.hid B74
    have HFo := Lib.hid hFo
    have h74 : b7 < w4.heap.size := B74.1
    clear hxs hxp hSx hFx h7x h7o B7 B74 So3 So4 R3 R4 r3 hb1 hc1 hx03 hx4 hFo2 hFo
    go_wp2_with fail
    go_loopw [7] (fun i wr => ∃ (k : Nat) (n : Int) (ats : List At) (A : Option Addr) (c : Nat) (F : List Nat), i = .int .i64 k ∧ k ≤ xs.length ∧ BoxAt wr b7 #[.int .i64 n, .slice A ats.length c, .slice Ao out.length co] ∧ SV 81 2 sAt wr (.slice A ats.length c) ats F ∧ F.Nodup ∧ (∀ b ∈ F, w4.heap.size ≤ b) ∧ Chg [b7] w4 wr ∧ 0 ≤ n ∧ n ≤ 5 ∧ ats.length ≤ k ∧ (∀ x ∈ ats, x.1.size ≤ 4194304 ∧ x.2.length ≤ 4194304) ∧ Hid (pqS n ats (xs.drop k) = pqS 0 [] xs)) (fun i _ => xs.length - (intOf i).toNat)
    case atStart => exact ⟨0, 0, [], none, 0, [], rfl, by omega, HB74.out, SV.nil, by simp, by simp, Chg.refl _ _, by omega, by omega, by simp, by simp, Lib.hid rfl⟩
    case round =>
      obtain ⟨k, n, ats, A, c, F, rfl, hk, hB, hS, hN, hF, hC, hn0, hn5, hal, hab, Hj⟩ := hrel
      have HS := Lib.hid hS
      have HN := Lib.hid hN
      have HF := Lib.hid hF
      have HC := Lib.hid hC
      have HAB := Lib.hid hab
      have HB := Lib.hid hB
      have h7r : b7 < wr.heap.size := hB.1
      by_cases hlt : k < xs.length
      · obtain ⟨_, _, e5, _, _, rx⟩ := HSx.out.view sS_v
        injection e5 with e5 _ e6
        subst e5 e6
        obtain ⟨bx, ox, rfl, hbx4, hcx4⟩ := rx.atS hlt
        obtain ⟨wd, hwd⟩ : ∃ x, xs[k] = x := ⟨_, rfl⟩
        have hwdp : wd.size ≤ p2.size := by rw [← hwd]; exact HXP.out _ (List.getElem_mem hlt)
        have ej := Hj.out
        rw [pqS_step hlt] at ej
        rw [hwd] at ej hcx4
        have HWD := Lib.hid hwd
        have HEJ := Lib.hid ej
        have hpw := splB_pos 40 wd
        have hnx : b7 ≠ bx := by
          intro e
          obtain ⟨gx, _, eA, gm, _, _⟩ := HSx.out.block (by intro e; rw [e] at hlt; simp at hlt)
          injection eA with eA
          injection eA with eA
          injection eA with eA
          subst eA
          exact H7x.out _ gm (by simp [e])
        have HCX : Hid (∀ W : World, Chg [b7] w4 W → W.cell? ⟨bx, ox + k, none⟩ = some (.string wd) ∧ bx < W.heap.size) := Lib.hid (fun W h => ⟨by rw [h.cell (by simp; omega) hbx4]; exact hcx4, Nat.lt_of_lt_of_le hbx4 h.size⟩)
        obtain ⟨hcx, hbx⟩ := HCX.out wr hC
        clear hcx4 hbx4
        obtain ⟨ps, hps3⟩ : ∃ ps, splB 40 wd = ps := ⟨_, rfl⟩
        have hpp : ∀ x ∈ ps, x.size ≤ wd.size := by rw [← hps3]; exact fun x hx => splB_piece hx
        have HPS := Lib.hid hps3
        rw [hps3] at hpw
        obtain ⟨nm, hnm⟩ : ∃ x, ps.getD 0 ⟨#[]⟩ = x := ⟨_, rfl⟩
        have hnms : nm.size ≤ wd.size := by
          rw [← hnm, show ps.getD 0 ⟨#[]⟩ = ps[0] by simp [List.getD_eq_getElem?_getD, hpw]]
          exact hpp _ (List.getElem_mem hpw)
        have HNM := Lib.hid hnm
        clear hwd ej hps3 hnm hpp hS hN hF hC hab rx
        go_wp2_with fail
        refine (l5Cut_m 40 40 (by omega) (by decide)).mono ?_
        rintro e w5 ⟨vp, Fp, rfl, hx5, hSp, hFp⟩
        rw [HPS.out] at hSp
        obtain ⟨Ap, cp, rfl, _, _, rp⟩ := hSp.view sS_v
        obtain ⟨bp, op, rfl, hbp, hcp⟩ := rp.atS1 hpw HNM.out
        have HSp := Lib.hid hSp
        have HFp := Lib.hid hFp
        have B5 := HB.out.toExt hx5
        obtain ⟨l5, k5, k5', k5'', f5⟩ := box3 B5
        have hcx5 : w5.cell? ⟨bx, ox + k, none⟩ = some (.string wd) := by obtain ⟨y, e⟩ := hx5; rw [e, cell_ext hbx]; exact hcx
        have hbx5 : bx < w5.heap.size := Nat.lt_of_lt_of_le hbx (size_of_ext hx5)
        have hz5 := size_of_ext hx5
        have HX5 := Lib.hid hx5
        have HFl5 : Hid (∀ b ∈ F, b < w5.drew.heap.size) := Lib.hid (fun b hb => Nat.lt_of_lt_of_le (HS.out.lt b hb) (by simpa using hz5))
        have hzc := HC.out.size
        have h7nF : b7 ∉ F := fun h => by have := HF.out b7 h; omega
        have hal2 : ats.length + 1 ≤ 2000000000 := by omega
        have hlw : (lst (bl wd)).length ≤ wd.size := Nat.le_trans (lst_len _) (by rw [bl_length]; omega)
        obtain ⟨L, hL⟩ : ∃ L, lst (bl wd) = L := ⟨_, rfl⟩
        have HL := Lib.hid hL
        rw [hL] at hlw
        clear hL hSp hFp rp hcx hbx hB
        go_upto_region 10 with fail
        go_cut [] (fun wx => ∃ (A6 : Option Addr) (c6 : Nat) (F6 : List Nat), BoxAt wx b7 #[.int .i64 n, .slice A6 (ats ++ [(nm, L)]).length c6, .slice Ao out.length co] ∧ SV 81 2 sAt wx (.slice A6 (ats ++ [(nm, L)]).length c6) (ats ++ [(nm, L)]) F6 ∧ F6.Nodup ∧ (∀ b ∈ F6, w4.heap.size ≤ b) ∧ Chg [b7] w4 wx)
        case first =>
          go_region_law (first
            | (refine step_appB (E := sAt) (d := (nm, L)) (G := Fl) (cs := #[.string nm, .slice Al L.length cl]) (by rfl) _ _ _ (by rfl) tA (by rfl) (by rfl) (by exact BoxAt.new _ _ _) (by simpa using sP_mk (F0 := []) ⟨rfl, rfl⟩ ⟨_, rfl, hSl.toExt (alloc_ext _ _)⟩) (by rfl) (by simp [Value.oneCell']) (SA6.toExt (alloc_ext _ _)) hNN hal2 (by omega) ?_; intro v7 w7 F7 hS7 hC7 hN7 hF7; obtain ⟨A7, c7, rfl, _, _⟩ := hS7.form; have B7 := (B6.alloc (.cells #[.string nm, .slice Al L.length cl] 81)).chg hC7 h7nF; obtain ⟨l7, k7, k7', k7'', f7⟩ := box3 B7)
            | (rw [if_pos (by simp [Region.wanted])]; go_wp2_with (go_at_call 199; refine (l7List_any (by omega)).mono ?_; rintro e w6 ⟨vl, Fl, rfl, hx6, hSl, hFl6⟩; rw [HL.out] at hSl; obtain ⟨Al, cl, rfl, _, _⟩ := hSl.form; have B6 := B5.drew.toExt hx6; obtain ⟨l6, k6, k6', k6'', f6⟩ := box3 B6; have hcp6 : w6.cell? ⟨bp, op, none⟩ = some (.string nm) := (by obtain ⟨y, e⟩ := hx6; rw [e, cell_ext (by simpa using hbp)]; simpa using hcp); have hbp6 : bp < w6.heap.size := Nat.lt_of_lt_of_le hbp (by simpa using size_of_ext hx6); have SA6 := ((HS.out.toExt HX5.out).toExt (drew_ext w5)).toExt hx6; have hz6 := size_of_ext hx6; have hNN := nodup_more HN.out hSl.nodup HFl5.out hFl6)))
          all_goals
            have hCa := ((((((HC.out.trans0 HX5.out).drew).trans0 hx6).alloc (.cells #[.string nm, .slice Al L.length cl] 81)).trans hC7 (fun x hx => .inr (HF.out x hx))).setCell (p := ⟨b7, 1, none⟩) (.inl (by simp)) (.slice A7 (ats ++ [(nm, L)]).length c7))
            have hF7n : ∀ b ∈ F7, w4.heap.size ≤ b := fun b hb => by
              have hz6' : w5.heap.size ≤ w6.heap.size := by simpa using hz6
              rcases hF7 b hb with h | h | h
              · exact HF.out b h
              · have h8 := hFl6 b h
                rw [show w5.drew.heap.size = w5.heap.size from rfl] at h8
                omega
              · rw [World.size_alloc] at h; omega
            have hSf := hS7.chg ((Chg.refl [b7] w7).setCell (p := ⟨b7, 1, none⟩) (.inl (by simp)) (.slice A7 (ats ++ [(nm, L)]).length c7)) (fun b hb h => by have := hF7n b hb; rw [List.mem_singleton.1 h] at this; omega)
            have hBf := B7.set31 (u := .slice A7 (ats ++ [(nm, L)]).length c7)
            have HH := Lib.hid (And.intro hSf (And.intro hBf (And.intro hCa hF7n)))
            have HN7 := Lib.hid hN7
            clear hCa hF7n hSf hBf hS7 hC7 hN7 hF7 B7 SA6 hSl hFl6
            go_wp2_with fail
            go_meet
            rw [show ats.length + 1 = (ats ++ [(nm, L)]).length by simp]
            exact ⟨A7, c7, F7, HH.out.2.1, HH.out.1, HN7.out, HH.out.2.2.2, HH.out.2.2.1⟩
        obtain ⟨A6, c6, F6, hB6, hS6, hN6, hF6, hC6⟩ := hcut
        obtain ⟨Wz, rfl⟩ : ∃ W, W = wc := ⟨_, rfl⟩
        have HB6 := Lib.hid hB6
        have HS6 := Lib.hid hS6
        have HN6 := Lib.hid hN6
        have HF6 := Lib.hid hF6
        have HC6 := Lib.hid hC6
        have HABf : Hid (∀ x ∈ ats ++ [(nm, L)], x.1.size ≤ 4194304 ∧ x.2.length ≤ 4194304) := Lib.hid (fun x hx => by
          rcases List.mem_append.1 hx with h | h
          · exact HAB.out x h
          · rw [List.mem_singleton.1 h]; dsimp only; omega)
        have hal3 : (ats ++ [(nm, L)]).length ≤ k + 1 := by simp; omega
        obtain ⟨ats2, ha2⟩ : ∃ a, ats ++ [(nm, L)] = a := ⟨_, rfl⟩
        have HEJ2 : Hid (pqS (mxv n L) ats2 (xs.drop (k + 1)) = pqS 0 [] xs) := Lib.hid (by
          have := HEJ.out
          rw [HL.out] at this
          rw [← ha2, ← HNM.out, ← HPS.out]
          exact this)
        rw [ha2] at HB6 HS6 HABf hal3
        clear ha2 hB6 hS6 hN6 hF6 hC6 HS HB HN HF HC HAB HEJ l5 k5 k5' k5'' f5 hcx5 hbx5 B5 hcp hbp HSp HFp hal hal2 h7nF HFl5 HX5 HNM HPS
        go_wp2_with fail
        go_loopw [9] (fun i vr => ∃ (j : Nat) (n' : Int), i = .int .i64 j ∧ j ≤ wd.size ∧ BoxAt vr b7 #[.int .i64 n', .slice A6 ats2.length c6, .slice Ao out.length co] ∧ Chg [b7] Wz vr ∧ 0 ≤ n' ∧ n' ≤ 5 ∧ Hid (mxv n' (lst ((bl wd).drop j)) = mxv n L)) (fun i _ => wd.size - (intOf i).toNat)
        case atStart => exact ⟨0, n, rfl, by omega, HB6.out, Chg.refl _ _, hn0, hn5, Lib.hid (by rw [List.drop_zero, HL.out])⟩
        case round =>
          obtain ⟨j, n', rfl, hj, hBj, hCj, hm0, hm5, Hj2⟩ := hrel
          have hCw := HC6.out.trans hCj (fun x hx => .inl hx)
          obtain ⟨hcxj, hbxj⟩ := HCX.out _ hCw
          obtain ⟨lj, kj, kj', kj'', fj⟩ := box3 hBj
          have HBj := Lib.hid hBj
          have HCj := Lib.hid hCj
          clear hCw hBj hCj
          by_cases hjl : j < wd.size
          · obtain ⟨b, hb⟩ : ∃ b, wd[j] = b := ⟨_, rfl⟩
            have HB := Lib.hid hb
            have e9 := Hj2.out
            rw [lstB_step hjl, hb, ← uu_five] at e9
            have HJ3 := Lib.hid e9
            have HU0 := Lib.hid (uu_zero n' b)
            clear hb e9
            go_wp2_with fail
            go_loopw [10] (fun i vs => ∃ (q : Int), i = .int .i64 q ∧ n' ≤ q ∧ q ≤ 5 ∧ BoxAt vs b7 #[.int .i64 (uu n' b q), .slice A6 ats2.length c6, .slice Ao out.length co] ∧ Chg [b7] Wz vs) (fun i _ => (5 - intOf i).toNat)
            case atStart => exact ⟨n', rfl, by omega, hm5, by rw [HU0.out]; exact HBj.out, HCj.out⟩
            case round =>
              obtain ⟨q, rfl, hq0, hq5, hBq, hCq⟩ := hrel
              have hCw2 := HC6.out.trans hCq (fun x hx => .inl hx)
              obtain ⟨hcxq, hbxq⟩ := HCX.out _ hCw2
              obtain ⟨lq, kq, kq', kq'', fq⟩ := box3 hBq
              have HBq := Lib.hid hBq
              have HCq := Lib.hid hCq
              clear hCw2 hBq hCq
              by_cases hql : q < 5
              · have hve := vname_eq (v := q) hjl (by omega) (by omega)
                rw [HB.out] at hve
                by_cases hit : vix b = some q
                · have q3 := str_beqt (hve.2 hit)
                  have HV := Lib.hid (uu_hit hit hq0)
                  clear hve hit
                  go_wp2_with fail
                  refine wp_region_ext (by kernel_rfl) (by kernel_rfl) ?_
                  repeat (go_big_quiet_step ((go_at_call 200; exact quietS (specVariableName_any _ _))))
                  refine wpQuiet_nil ?_
                  rintro _ ⟨z, rfl⟩
                  have B9 := HBq.out.toExt (w' := ext wr z) ⟨z, rfl⟩
                  have C9 := HCq.out.trans0 (c := ext wr z) ⟨z, rfl⟩
                  obtain ⟨l9, k9, k9', k9'', f9⟩ := box3 B9
                  have HB9 := Lib.hid B9
                  have HC9 := Lib.hid C9
                  clear B9 C9
                  go_wp2
                  exact ⟨⟨q + 1, by go_num, by omega, by omega, by rw [HV.out]; exact HB9.out.set30, HC9.out.setCell (.inl (by simp)) _⟩, by simp [intOf]; omega⟩
                · have q3 := str_beqf (fun e => hit (hve.1 e))
                  have HV := Lib.hid (uu_miss (n := n') hit)
                  clear hve hit
                  go_wp2_with fail
                  refine wp_region_ext (by kernel_rfl) (by kernel_rfl) ?_
                  repeat (go_big_quiet_step ((go_at_call 200; exact quietS (specVariableName_any _ _))))
                  refine wpQuiet_nil ?_
                  rintro _ ⟨z, rfl⟩
                  go_wp2
                  exact ⟨⟨q + 1, by go_num, by omega, by omega, by rw [HV.out]; exact HBq.out.toExt ⟨z, rfl⟩, HCq.out.trans0 ⟨z, rfl⟩⟩, by simp [intOf]; omega⟩
              · obtain rfl : q = 5 := by omega
                have hub := uu_bd (b := b) (i := 5) hm0 hm5
                go_wp2
                exact ⟨⟨j + 1, uu n' b 5, by go_num, by omega, HBq.out, HCq.out, hub.1, hub.2, HJ3⟩, by simp [intOf]; omega⟩
          · have e9 := Hj2.out
            rw [List.drop_eq_nil_of_le (by rw [bl_length]; omega)] at e9
            have e10 : n' = mxv n L := e9
            clear e9
            subst e10
            have hSf := HS6.out.chg HCj.out (fun b hb h => by have := HF6.out b hb; rw [List.mem_singleton.1 h] at this; omega)
            have HSf := Lib.hid hSf
            clear hSf
            go_wp2
            exact ⟨⟨k + 1, mxv n L, ats2, A6, c6, F6, by go_num, by omega, HBj.out, HSf.out, HN6.out, HF6.out, HC6.out.trans HCj.out (fun x hx => .inl hx), hm0, hm5, hal3, HABf.out, HEJ2⟩, by simp [intOf]; omega⟩
      · have ej := Hj.out
        rw [pqS_end hlt] at ej
        have HE3 := Lib.hid (show pQ s = finQ (n, ats, out) s by rw [HE.out, ← ej])
        have hXr := HC.out.isExt HX4.out (by simp; omega)
        have Sor := HSo.out.chg HC.out H7o.out
        have R5 := HR4.out.chg HC.out (by simp; omega)
        have hq : sQ wr [.int .i64 n, .slice A ats.length c, .slice Ao out.length co] (n, ats, out) ([] ++ (F ++ Fo)) := sP_mk ⟨rfl, rfl⟩ (sP_mk ⟨_, rfl, HS.out⟩ ⟨_, rfl, Sor⟩)
        rw [List.nil_append] at hq
        have hz4w := size_of_ext HX4.out
        have hFn : ∀ b ∈ F ++ Fo, w.heap.size < b := fun b hb => by
          rcases List.mem_append.1 hb with h | h
          · have := HF.out b h; omega
          · have := HFo.out b h; omega
        have hNN : (F ++ Fo).Nodup := List.nodup_append.2 ⟨HN.out, Sor.nodup, fun a ha b hb e => by
          have h1 := HF.out a ha
          have h2 := HSo.out.lt b hb
          omega⟩
        have HQ := Lib.hid hq
        have HFN := Lib.hid hFn
        have HNN := Lib.hid hNN
        have HXr := Lib.hid hXr
        have hWQ : WQ (n, ats, out) := ⟨⟨by dsimp only; omega, by dsimp only; omega⟩, ⟨by dsimp only; omega, HAB.out⟩, by dsimp only; omega⟩
        have HWQ := Lib.hid hWQ
        obtain ⟨l7, k7, k7', k7'', f7⟩ := box3 hB
        obtain ⟨l5, k5, k5', k5'', f5⟩ := box3 R5
        have HB7 := Lib.hid hB
        have HR5 := Lib.hid R5
        clear ej hS hN hF hC hab hB hq hFn hNN hXr hWQ Sor R5
        obtain ⟨t, ht⟩ : ∃ t, fmtQ (n, ats, out) = t := ⟨_, rfl⟩
        have HT := Lib.hid ht
        by_cases hts : t = s
        · have q8 := str_bnet hts
          have q9 := str_beqt hts
          by_cases hs0 : s.size = 0
          · have HE4 := Lib.hid (show pQ s = none by rw [HE3.out]; unfold finQ; rw [if_neg (fun h => h.2 hs0)])
            have z1 := isEmpty_yes hs0
            have z2 : (s.toList == (ByteArray.mk #[]).toList) = true := str_beqt (bl_inj (size_zero hs0))
            clear ht hts hs0
            go_wp2_with (go_at_call 201; refine (specFormatQuery_w (d := (n, ats, out)) HWQ.out (sQ_v _ _ _ HQ.out)).mono ?_; rintro e w8 ⟨rfl, hx8⟩; rw [HT.out]; obtain ⟨l8, k8, k8', k8'', f8⟩ := box3 (HB7.out.toExt hx8); obtain ⟨l9, k9, k9', k9'', f9⟩ := box3 (HR5.out.toExt hx8))
            have hX := HXr.out
            exact bodyPost_ret (v := .tuple #[.agg #[.int .i64 0, .slice none 0 0, .slice none 0 0], .bool false]) (by simp [results, Try.results194, go_sem, *]) rfl ⟨_, _, _, [], by rw [HE4.out]; rfl, (by refine x'z ?_; repeat (with_reducible (first | apply x'a | apply x'b | exact x'c (by assumption) | refine x'd ?_ (by assumption) | apply x'e | apply x'f | apply x'g | apply x'h | apply x'i | apply x'j | apply x'k | apply x'l | apply x'm | assumption | (refine x'n ?_; omega) | omega))), by rw [HE4.out]; exact zQ_own _, by simp, by simp⟩
          · have z1 := isEmpty_no (s := s) (by omega)
            have z2 := toList_empty (s := s) (by omega)
            have HE4 := Lib.hid (show pQ s = some (n, ats, out) by rw [HE3.out]; unfold finQ; rw [if_pos ⟨ht.trans hts, hs0⟩])
            clear ht hts hs0
            go_wp2_with (go_at_call 201; refine (specFormatQuery_w (d := (n, ats, out)) HWQ.out (sQ_v _ _ _ HQ.out)).mono ?_; rintro e w8 ⟨rfl, hx8⟩; rw [HT.out]; obtain ⟨l8, k8, k8', k8'', f8⟩ := box3 (HB7.out.toExt hx8); obtain ⟨l9, k9, k9', k9'', f9⟩ := box3 (HR5.out.toExt hx8))
            have hX := HXr.out
            have hQ8 : sQ w8 [.int .i64 n, .slice A ats.length c, .slice Ao out.length co] (n, ats, out) (F ++ Fo) := OD.toExt HQ.out hx8
            exact bodyPost_ret (v := .tuple #[.agg #[.int .i64 n, .slice A ats.length c, .slice Ao out.length co], .bool true]) (by simp [results, Try.results194, go_sem, *]) rfl ⟨_, _, _, F ++ Fo, by rw [HE4.out]; rfl, (by refine x'z ?_; repeat (with_reducible (first | apply x'a | apply x'b | exact x'c (by assumption) | refine x'd ?_ (by assumption) | apply x'e | apply x'f | apply x'g | apply x'h | apply x'i | apply x'j | apply x'k | apply x'l | apply x'm | assumption | (refine x'n ?_; omega) | omega))), by rw [HE4.out]; exact OD.chg (G := [w.heap.size]) hQ8 (by repeat (with_reducible (first | exact Chg.refl _ _ | refine Chg.trans0 ?_ (by assumption) | refine Chg.extS ?_ _ | refine Chg.alloc ?_ _ | refine Chg.drew ?_ | refine Chg.setCell ?_ (.inl (by simp)) _))) (fun b hb h => by have := HFN.out b hb; rw [List.mem_singleton.1 h] at this; omega), HNN.out, fun b hb => Nat.le_of_lt (HFN.out b hb)⟩
        · have q8 := str_bnef hts
          have q9 := str_beqf hts
          have HE4 := Lib.hid (show pQ s = none by rw [HE3.out]; unfold finQ; rw [if_neg (fun h => hts (ht.symm.trans h.1))])
          clear ht hts
          go_wp2_with (go_at_call 201; refine (specFormatQuery_w (d := (n, ats, out)) HWQ.out (sQ_v _ _ _ HQ.out)).mono ?_; rintro e w8 ⟨rfl, hx8⟩; rw [HT.out]; obtain ⟨l8, k8, k8', k8'', f8⟩ := box3 (HB7.out.toExt hx8); obtain ⟨l9, k9, k9', k9'', f9⟩ := box3 (HR5.out.toExt hx8))
          have hX := HXr.out
          exact bodyPost_ret (v := .tuple #[.agg #[.int .i64 0, .slice none 0 0, .slice none 0 0], .bool false]) (by simp [results, Try.results194, go_sem, *]) rfl ⟨_, _, _, [], by rw [HE4.out]; rfl, (by refine x'z ?_; repeat (with_reducible (first | apply x'a | apply x'b | exact x'c (by assumption) | refine x'd ?_ (by assumption) | apply x'e | apply x'f | apply x'g | apply x'h | apply x'i | apply x'j | apply x'k | apply x'l | apply x'm | assumption | (refine x'n ?_; omega) | omega))), by rw [HE4.out]; exact zQ_own _, by simp, by simp⟩
  · have q1 : ((ws.length : Int) != 2) = true := by rw [bne_iff_ne]; omega
    have HE := Lib.hid (show pQ s = none by
      rw [← pQs_eq]
      unfold pQs
      rw [HW.out, if_neg hl])
    obtain ⟨l2, k2, k2', k2'', f2⟩ := box3 R1
    clear hl
    go_wp2
    exact bodyPost_ret (v := .tuple #[.agg #[.int .i64 0, .slice none 0 0, .slice none 0 0], .bool false]) (by simp [results, Try.results194, go_sem, *]) rfl ⟨_, _, _, [], by rw [HE.out]; rfl, (by refine x'z ?_; repeat (with_reducible (first | apply x'a | apply x'b | exact x'c (by assumption) | refine x'd ?_ (by assumption) | apply x'e | apply x'f | apply x'g | apply x'h | apply x'i | apply x'j | apply x'k | apply x'l | apply x'm | assumption | (refine x'n ?_; omega) | omega))), by rw [HE.out]; exact zQ_own _, by simp, by simp⟩
end Go.Proofs.Ytfigcfajkilhiaa

/- Marks written into lists of atoms and into queries. -/
namespace Go.Proofs.Ytfigcfajkilhiaa
open Go.RowKit

def mkA (k : Int) (x : At) : At × Int := ((mtx k, marks (k + 1) x.2.length), k + 1 + x.2.length)
theorem mkA_sum (k : Int) (xs : List At) : (mkN mkA k xs).2 = k + ((xs.map fun x => 1 + x.2.length).sum : Nat) := mkN_sum (fun k x => by simp [mkA]; omega) xs k
theorem mkA_bd {k : Int} {xs : List At} (h0 : 0 ≤ k) (hs : k + ((xs.map fun x => 1 + x.2.length).sum : Nat) ≤ 99000000000) (i : Nat) : 0 ≤ (mkN mkA k (xs.take i)).2 ∧ (mkN mkA k (xs.take i)).2 ≤ 99000000000 := by
  rw [mkA_sum]
  have := sum_take_le (c := fun x : At => 1 + x.2.length) xs i
  omega
theorem mkA_tot : ∀ (d : List At), (d.map fun x => 1 + x.2.length).sum ≤ d.length + (d.map cAt).sum
  | [] => by simp
  | x :: d => by
    have := mkA_tot d
    simp only [List.map_cons, List.sum_cons, List.length_cons, cAt] at this ⊢
    omega
theorem sl_blk {g g' n n' c c' : Nat} (h : Value.slice (some ⟨g, 0, none⟩) n c = .slice (some ⟨g', 0, none⟩) n' c') : g = g' := by
  injection h with e1 _ _
  injection e1 with e1
  injection e1 with e1 _ _
theorem sAt_get {w : World} {c : List Value} {d : At} {F : List Nat} (h : sAt w c d F) : ∃ v, c = [.string d.1, v] ∧ SV 3 1 sI w v d.2 F := by
  obtain ⟨c0, c1, F0, F1, e0, h0, ⟨h1, f1⟩, ⟨v, rfl, h3⟩, e4⟩ := h
  subst h1 f1
  refine ⟨v, by rw [e0]; rfl, by rw [e4]; simpa using h3⟩
theorem sAt_mk {w : World} {s : ByteArray} {xs : List Int} {v : Value} {F : List Nat} (h : SV 3 1 sI w v xs F) : sAt w [.string s, v] (s, xs) F :=
  ⟨[.string s], [v], [], F, rfl, rfl, ⟨rfl, rfl⟩, ⟨v, rfl, h⟩, rfl⟩
set_option maxHeartbeats 4000000 in
theorem markAtomS_any {v : Value} {xs : List At} {F : List Nat} {k0 : Int} {w : World} (hx : xs.length ≤ 1000000000) (hxl : ∀ x ∈ xs, x.2.length ≤ 1000000000) (hS : SV 81 2 sAt w v xs F) (hN : F.Nodup) (h0 : 0 ≤ k0) (hk0 : k0 + ((xs.map fun x => 1 + x.2.length).sum : Nat) ≤ 99000000000) :
    Calls Try.prog 109 #[v, .int .i64 k0] w fun e w' => e = .returned (.int .i64 (mkN mkA k0 xs).2) ∧ SV 81 2 sAt w' v (mkN mkA k0 xs).1 F ∧ Chg F w w' := by
  have Hxl := Lib.hid hxl
  have HN := Lib.hid hN
  have HB := Lib.hid (mkA_bd h0 hk0)
  clear hxl hN hk0
  obtain ⟨A, cap, rfl, _, _⟩ := hS.form
  go_enter Try.func109, Try.ntmps109
  go_wp2
  go_loopw [1, 5] (fun m i wr => ∃ k : Nat, i = .int .i64 k ∧ m = .int .i64 (mkN mkA k0 (xs.take k)).2 ∧ k ≤ xs.length ∧ SV 81 2 sAt wr (.slice A xs.length cap) ((mkN mkA k0 (xs.take k)).1 ++ xs.drop k) F ∧ Chg F w wr) (fun _ i _ => xs.length - (intOf i).toNat)
  case atStart => exact ⟨0, rfl, by simp [mkN], by omega, by simpa [mkN] using hS, Chg.refl F w⟩
  case round =>
    obtain ⟨k, rfl, rfl, hk, hSk, hC⟩ := hrel
    have hlen : ((mkN mkA k0 (xs.take k)).1 ++ xs.drop k).length = xs.length := by simp; omega
    by_cases hlt : k < xs.length
    · obtain ⟨g, cap', hv, hgF, _, _⟩ := hSk.block (by intro e; rw [e] at hlen; simp at hlen; omega)
      rw [hlen] at hv
      injection hv with hA _ hc
      subst hA hc
      have hle := Hxl.out xs[k] (List.getElem_mem hlt)
      obtain ⟨b1, b2⟩ := HB.out k
      have hst := mk_set (mk := mkA) (k := k0) hlt
      have HT := Lib.hid (mkN_take (mk := mkA) (k := k0) hlt)
      obtain ⟨m, hm⟩ : ∃ m, (mkN mkA k0 (xs.take k)).2 = m := ⟨_, rfl⟩
      obtain ⟨L, hL⟩ : ∃ L, (mkN mkA k0 (xs.take k)).1 ++ xs.drop k = L := ⟨_, rfl⟩
      rw [hm] at b1 b2 hst ⊢
      have HM := Lib.hid hm
      obtain ⟨x, hx⟩ : ∃ x, xs[k] = x := ⟨_, rfl⟩
      have HG : Hid (∀ h : k < L.length, L[k] = x) := Lib.hid (by subst hL; intro h; rw [← hx]; exact mk_get hlt h)
      rw [hL] at hst hSk hlen
      rw [hx] at hle hst
      have HX := Lib.hid hx
      have HS := Lib.hid hst
      have HL := Lib.hid hlen
      have hSk := Lib.hid hSk
      clear hm hL hst hlen hx
      go_upto_region 5 with (go_at_call 174; refine (markText_any (by omega)).mono ?_; rintro e w2 ⟨rfl, hx2⟩; have hS2 := hSk.out.toExt hx2; obtain ⟨g2, cap2, c2, Fk2, hv2, hg2, hgF2, hgk2, hsub2, hNk2, hcl2, hcell2, hfz2, hE2, _, hup2⟩ := hS2.at HN.out (k := k) (by rw [HL.out]; omega); obtain rfl := sl_blk hv2; clear hv2; obtain ⟨v2, rfl, hV2⟩ := sAt_get hE2; have hc20 := hcell2 0 (by simp); have hc21 := hcell2 1 (by simp); simp only [Nat.add_zero, List.getElem_cons_zero, List.getElem_cons_succ] at hc20 hc21; have Hup := Lib.hid hup2; have Hsub := Lib.hid hsub2; clear hcell2 hup2 hsub2 hcl2 hS2)
      refine wp_name ?_
      intro w3 hw3
      have hk2 : k < L.length := by rw [HL.out]; exact hlt
      have hgx := HG.out hk2
      rw [hgx] at hV2
      obtain ⟨hS3, hC3⟩ := Hup.out 0 (.string (mtx m)) (mtx m, x.2) (by omega) (show sAt w2 [.string (mtx m), v2] (mtx m, x.2) Fk2 from sAt_mk hV2)
      rw [Nat.add_zero, ← hw3.out] at hS3 hC3
      have hC3w := hC3
      obtain ⟨g3, cap3, c3, Fk3, hv3, hg3, hgF3, hgk3, hsub3, hNk3, hcl3, hcell3, hfz3, hE3, hup3, _⟩ := hS3.at HN.out (k := k) (by simpa using hk2)
      obtain rfl := sl_blk hv3
      clear hv3
      rw [List.getElem_set_self] at hE3
      obtain ⟨v3, rfl, hV3⟩ := sAt_get hE3
      have hc31 := hcell3 1 (by simp)
      simp only [List.getElem_cons_zero, List.getElem_cons_succ] at hc31
      dsimp only at hV3
      have Hup3 := Lib.hid hup3
      have Hsub3 := Lib.hid hsub3
      have HgF := Lib.hid hgF
      have HC3 := Lib.hid hC3
      clear hcell3 hup3 hsub3 hcl3 hS3 hC3w hC3 hw3 hc20 hc21 Hup hgx hE3 hE2 hfz2 hfz3 hV2
      go_wp2_with (go_at_call 110; refine (markIntS_any hle hV3 (by omega) (by omega)).mono ?_; rintro e w4 ⟨rfl, hS4, hC4⟩)
      have h5 := Hup3.out w4 (mtx m, marks (m + 1) x.2.length) (sAt_mk hS4) hC4
      rw [List.set_set] at h5
      have e3 : L.set k (mtx m, marks (m + 1) x.2.length) = (mkN mkA k0 (xs.take (k + 1))).1 ++ xs.drop (k + 1) := HS.out
      have e4 : (mkN mkA k0 (xs.take (k + 1))).2 = m + 1 + x.2.length := by rw [HT.out, HM.out, HX.out]; rfl
      exact ⟨⟨k + 1, by go_num, by rw [e4], by omega, by rw [← e3]; exact h5, ((Chg.trans0 hC hx2).trans HC3.out (fun y hy => .inl (by rw [List.mem_singleton.1 hy]; exact HgF.out))).trans hC4 (fun y hy => .inl (Hsub3.out y hy))⟩, by simp [intOf]; omega⟩
    · go_wp2
      go_ret
      have e : k = xs.length := by omega
      subst e
      rw [List.take_length] at hSk ⊢
      exact ⟨rfl, by rwa [List.drop_length, List.append_nil] at hSk, hC⟩
theorem markAtomS_d {v : Value} {d : List At} {F : List Nat} {k0 : Int} {w : World} (hb : BAts d) (h : sAts w [v] d F) (hN : F.Nodup) (h0 : 0 ≤ k0) (hk0 : k0 ≤ 90000000000) :
    Calls Try.prog 109 #[v, .int .i64 k0] w fun e w' => ∃ k', e = .returned (.int .i64 k') ∧ Hid ((mkN mkA k0 d).2 = k') ∧ k0 ≤ k' ∧ k' ≤ k0 + 3000000 ∧ sAts w' [v] (mkN mkA k0 d).1 F ∧ Chg F w w' := by
  have hm := mkA_tot d
  have hb1 := hb.1
  have hb2 := hb.2
  obtain ⟨v', e, h⟩ := h
  injection e with e
  subst e
  refine (markAtomS_any (Nat.le_trans hb.1 (by omega)) (fun x hx => Nat.le_trans (hb.each x hx).2 (by omega)) h hN h0 (by omega)).mono ?_
  rintro e w' ⟨h1, h2, h3⟩
  refine ⟨_, h1, Lib.hid rfl, ?_, ?_, ⟨_, rfl, h2⟩, h3⟩ <;> (rw [mkA_sum]; omega)
def mkQ (k : Int) (d : Qd) : Qd × Int := ((d.1, (mkN mkA k d.2.1).1, marks (mkN mkA k d.2.1).2 d.2.2.length), (mkN mkA k d.2.1).2 + d.2.2.length)
theorem sQ_get {w : World} {v0 v1 v2 : Value} {d : Qd} {F : List Nat} (h : sQ w [v0, v1, v2] d F) : ∃ F1 F2, F = F1 ++ F2 ∧ v0 = .int .i64 d.1 ∧ sAts w [v1] d.2.1 F1 ∧ SV 3 1 sI w v2 d.2.2 F2 := by
  obtain ⟨c0, c1, F0, F1, e0, h0, ⟨h1, f1⟩, ⟨c2, c3, F2, F3, e1, h2, ⟨u1, rfl, h3⟩, ⟨u2, rfl, h4⟩, e5⟩, e6⟩ := h
  subst e1 h1 f1 e5
  simp only [List.cons_append, List.nil_append, List.cons.injEq, and_true] at e0
  obtain ⟨rfl, rfl, rfl⟩ := e0
  exact ⟨F2, F3, by simpa using e6, rfl, ⟨_, rfl, h3⟩, h4⟩
set_option maxHeartbeats 1000000 in
theorem markQuery_d {v0 v1 v2 : Value} {d : Qd} {F : List Nat} {k0 : Int} {w : World} (hb : BQ d) (h : sQ w [v0, v1, v2] d F) (hN : F.Nodup) (h0 : 0 ≤ k0) (hk0 : k0 ≤ 80000000000) :
    Calls Try.prog 35 #[.agg #[v0, v1, v2], .int .i64 k0] w fun e w' => ∃ k', e = .returned (.int .i64 k') ∧ Hid ((mkQ k0 d).2 = k') ∧ k0 ≤ k' ∧ k' ≤ k0 + 6000000 ∧ sQ w' [v0, v1, v2] (mkQ k0 d).1 F ∧ Chg F w w' := by
  obtain ⟨hb1, hb2, hb3⟩ := hb
  have hq := h
  obtain ⟨F1, F2, rfl, rfl, hA, hO⟩ := sQ_get hq
  obtain ⟨N1, N2, N3⟩ := List.nodup_append.1 hN
  obtain ⟨A, a, B, b, _, rfl, rfl⟩ := sQ_form h
  have hm2 : d.2.2.length ≤ 1000000000 := by omega
  have hlt : ∀ b ∈ F1 ++ F2, b < w.heap.size := SMono.lt h
  have Hlt := Lib.hid hlt
  have HN3 := Lib.hid N3
  clear h hq hN hlt N3
  go_enter Try.func35, Try.ntmps35
  go_upto_region 1 with fail
  refine wp_name ?_
  intro W hW
  have xW : ∃ y, W = ext w y := by rw [hW.out]; exact (by refine x'z ?_; repeat (with_reducible (first | apply x'a | apply x'b | exact x'c (by assumption) | refine x'd ?_ (by assumption) | apply x'e | apply x'f | apply x'g | apply x'h | apply x'i | apply x'j | apply x'k | apply x'l | apply x'm | assumption | (refine x'n ?_; omega) | omega)))
  have BW0 : BoxAt W (w.heap.size) #[.int .i64 d.1, .slice A d.2.1.length a, .slice B d.2.2.length b] := by rw [hW.out]; refine ⟨?_, fun j => ?_, fun j => ?_⟩ <;> go_simp
  obtain ⟨lW0, bW0, fW0⟩ := BW0
  have cW0_0 : W.cell? ⟨w.heap.size, 0, none⟩ = some (.int .i64 d.1) := bW0 0
  have cW0_1 : W.cell? ⟨w.heap.size, 1, none⟩ = some (.slice A d.2.1.length a) := bW0 1
  have cW0_2 : W.cell? ⟨w.heap.size, 2, none⟩ = some (.slice B d.2.2.length b) := bW0 2
  clear hW
  have PW : BoxAt W w.heap.size #[.int .i64 d.1, .slice A d.2.1.length a, .slice B d.2.2.length b] := ⟨lW0, bW0, fW0⟩
  have nF1 : w.heap.size ∉ F1 := fun h => by have := Hlt.out _ (List.mem_append_left F2 h); omega
  have hAW := OD.toExt hA xW
  have hOW := hO.toExt xW
  go_wp2_with (first
    | (go_at_call 109; refine (markAtomS_d hb2 hAW N1 h0 (by omega)).mono ?_; rintro e w1 ⟨k1, rfl, HK1, kl1, ku1, hA1, hC1⟩; have P1 := PW.chg hC1 nF1; obtain ⟨l1, a1, a1', a1'', f1⟩ := box3 P1)
    | (go_at_call 110; refine (markIntS_any hm2 (hOW.chg hC1 (fun y hy hy2 => HN3.out y hy2 y hy rfl)) (by omega) (by omega)).mono ?_; rintro e w2 ⟨rfl, hO2, hC2⟩))
  go_ret
  have HK : (mkN mkA k0 d.2.1).2 = k1 := HK1.out
  have hA2 : sAts w2 [.slice A d.2.1.length a] (mkN mkA k0 d.2.1).1 F1 := OD.chg hA1 hC2 (fun y hy hy2 => HN3.out y hy y hy2 rfl)
  refine ⟨_, rfl, Lib.hid (by unfold mkQ; rw [HK]), by omega, by omega, ?_, ?_⟩
  · have hR := sP_mk (E0 := sI) (w := w2) (u := .int .i64 d.1) (d := (d.1, ((mkN mkA k0 d.2.1).1, marks k1 d.2.2.length))) ⟨rfl, rfl⟩ (sP_mk (E0 := sAts) (E1 := sSl 3 1 sI) (u := .slice A d.2.1.length a) (d := ((mkN mkA k0 d.2.1).1, marks k1 d.2.2.length)) hA2 ⟨_, rfl, hO2⟩)
    unfold mkQ
    rw [HK]
    simpa using hR
  · exact ((Chg.ofExt xW).trans hC1 (fun y hy => .inl (by simp [hy]))).trans hC2 (fun y hy => .inl (by simp [hy]))
end Go.Proofs.Ytfigcfajkilhiaa

/- The reference's draws of queries: one that is known, or one drawn and valid. -/
namespace Go.Proofs.Ytfigcfajkilhiaa
open Go.RowKit
theorem SV.lit {α : Type} {te : Nat} {E : SE α} {u : Value} {d : α} (w : World) (hE : ∀ w, E w [u] d []) : SV te 1 E (w.alloc (.cells #[u] te)) (.slice (some ⟨w.heap.size, 0, none⟩) 1 1) [d] [w.heap.size] :=
  ⟨[u], [], ⟨by simp, .inr ⟨w.heap.size, 1, #[u], rfl, Nat.zero_le _, heap_alloc_new w _, Nat.le_refl _, by simp [maxLen], by simp, by simp⟩⟩, elems_one rfl (hE _), rfl⟩
theorem box_second {w : World} {cs ds : Array Value} {t t' : TypeId} : BoxAt ((w.alloc (.cells cs t)).alloc (.cells ds t')) (w.heap.size + 1) ds := by
  have h := BoxAt.new (w.alloc (.cells cs t)) ds t'
  rw [World.size_alloc] at h
  exact h
theorem sQ_mk {w : World} {vA vO : Value} {z : Int} {ats : List At} {out : List Int} {FA FO : List Nat} (hA : SV 81 2 sAt w vA ats FA) (hO : SV 3 1 sI w vO out FO) : sQ w [.int .i64 z, vA, vO] (z, ats, out) (FA ++ FO) :=
  ⟨[.int .i64 z], [vA, vO], [], FA ++ FO, rfl, rfl, ⟨rfl, rfl⟩, ⟨[vA], [vO], FA, FO, rfl, rfl, ⟨_, rfl, hA⟩, ⟨_, rfl, hO⟩, rfl⟩, by simp⟩
structure QrD (q : Qd) : Prop where
  v : vqB q = true
  f : FewQ q
theorem QrD.i {q : Qd} (h : QrD q) : 1 ≤ q.1 ∧ q.1 ≤ 5 := vq_n (n := q.1) (ats := q.2.1) (out := q.2.2) h.v
theorem QrD.n {q : Qd} (h : QrD q) : 1 ≤ q.2.1.length ∧ q.2.1.length ≤ 4 := by
  have h1 := h.v
  unfold vqB at h1
  simp only [Bool.and_eq_true] at h1
  have := inB_t h1.1.1.1.2
  omega
theorem known_at {j : Nat} {x : ByteArray} (h : (#[.string ⟨#[40, 88, 89, 90, 41, 61, 114, 40, 88, 89, 41, 44, 115, 40, 89, 90, 41, 44, 116, 40, 90, 88, 41]⟩, .string ⟨#[40, 88, 89, 90, 85, 41, 61, 114, 40, 88, 89, 41, 44, 115, 40, 89, 90, 41, 44, 116, 40, 90, 85, 41, 44, 117, 40, 85, 88, 41]⟩, .string ⟨#[40, 88, 89, 90, 41, 61, 114, 40, 88, 89, 41, 44, 115, 40, 89, 90, 41]⟩, .string ⟨#[40, 88, 41, 61, 114, 40, 88, 89, 41, 44, 115, 40, 89, 90, 41, 44, 116, 40, 90, 85, 41]⟩, .string ⟨#[40, 88, 89, 90, 41, 61, 118, 40, 88, 89, 90, 41, 44, 114, 40, 88, 89, 41]⟩, .string ⟨#[40, 88, 89, 41, 61, 114, 40, 88, 89, 41, 44, 114, 40, 89, 88, 41]⟩, .string ⟨#[40, 88, 89, 90, 85, 41, 61, 118, 40, 88, 89, 90, 41, 44, 115, 40, 90, 85, 41, 44, 116, 40, 85, 88, 41]⟩, .string ⟨#[40, 88, 41, 61, 114, 40, 88, 88, 41]⟩, .string ⟨#[40, 88, 89, 41, 61, 114, 40, 88, 90, 41, 44, 115, 40, 90, 89, 41, 44, 114, 40, 88, 85, 41, 44, 115, 40, 85, 89, 41]⟩, .string ⟨#[40, 41, 61, 114, 40, 88, 89, 41, 44, 115, 40, 89, 88, 41]⟩, .string ⟨#[40, 88, 89, 90, 85, 86, 41, 61, 114, 40, 88, 89, 41, 44, 115, 40, 89, 90, 41, 44, 116, 40, 90, 85, 41, 44, 117, 40, 85, 86, 41]⟩] : Array Value)[j]? = some (.string x)) : x ∈ knownQ := by
  have h2 : (knownQ.map Value.string)[j]? = some (.string x) := by rw [← h, ← Array.getElem?_toList]; rfl
  rw [List.getElem?_map] at h2
  cases e : knownQ[j]? with
  | none => rw [e] at h2; cases h2
  | some s =>
    rw [e] at h2
    injection h2 with h2
    injection h2 with h2
    subst h2
    exact List.mem_of_getElem? e
theorem known_size : ∀ s ∈ knownQ, s.size ≤ 100 := by decide
theorem five_at {j : Nat} (h : j < 5) : ∃ s : ByteArray, (#[.string ⟨#[114]⟩, .string ⟨#[115]⟩, .string ⟨#[116]⟩, .string ⟨#[117]⟩, .string ⟨#[118]⟩] : Array Value)[j]? = some (.string s) ∧ s.size = 1 := by
  rcases j with _ | _ | _ | _ | _ | j
  · exact ⟨_, rfl, rfl⟩
  · exact ⟨_, rfl, rfl⟩
  · exact ⟨_, rfl, rfl⟩
  · exact ⟨_, rfl, rfl⟩
  · exact ⟨_, rfl, rfl⟩
  · omega
def QrP (w0 : World) (g : Nat) (w : World) (e : Ending) (w' : World) : Prop := ∃ v0 v1 v2 F q, e = .returned (.agg #[v0, v1, v2]) ∧ sQ w' [v0, v1, v2] q F ∧ F.Nodup ∧ (∀ b ∈ F, w.heap.size ≤ b) ∧ QrD q ∧ Cur w0 w' g ∧ Chg [g] w w'
set_option maxRecDepth 100000 in
set_option maxHeartbeats 80000000 in
theorem l7Query_any {g : Nat} {w0 w : World} (hc : Cur w0 w g) : Calls Try.prog 187 #[.pointer (some ⟨g, 0, none⟩)] w (QrP w0 g w) := by
  have hgw := hc.lt
  have hw0w := size_of_ext hc.2.1
  have Hc0 := Lib.hid hc
  clear hc
  go_enter Try.func187, Try.ntmps187
  go_upto_region 1 with fail
  refine wp_name ?_
  intro W hW
  have xW : ∃ y, W = ext w y := by rw [hW.out]; exact (by refine x'z ?_; repeat (with_reducible (first | apply x'a | apply x'b | exact x'c (by assumption) | refine x'd ?_ (by assumption) | apply x'e | apply x'f | apply x'g | apply x'h | apply x'i | apply x'j | apply x'k | apply x'l | apply x'm | assumption | (refine x'n ?_; omega) | omega)))
  have BW0 : BoxAt W (w.heap.size) #[.int .i64 0, .slice none 0 0, .slice none 0 0] := by rw [hW.out]; refine ⟨?_, fun j => ?_, fun j => ?_⟩ <;> go_simp
  obtain ⟨lW0, bW0, fW0⟩ := BW0
  have cW0_0 : W.cell? ⟨w.heap.size, 0, none⟩ = some (.int .i64 0) := bW0 0
  have cW0_1 : W.cell? ⟨w.heap.size, 1, none⟩ = some (.slice none 0 0) := bW0 1
  have cW0_2 : W.cell? ⟨w.heap.size, 2, none⟩ = some (.slice none 0 0) := bW0 2
  clear hW
  have HR := Lib.hid (show BoxAt W w.heap.size #[.int .i64 0, .slice none 0 0, .slice none 0 0] from ⟨lW0, bW0, fW0⟩)
  clear bW0 fW0 cW0_0 cW0_1 cW0_2
  have hzW := size_of_ext xW
  go_wp2_with fail
  refine (l1Pick_any (m := 11) (Hc0.out.toExt (trans_ext xW (alloc_ext _ _))) (by omega) (by omega) (BoxAt.new _ _ _) (by intro j hj; rcases j with _ | _ | _ | _ | _ | _ | _ | _ | _ | _ | _ | j <;> first | exact ⟨_, rfl⟩ | omega) (by omega)).mono ?_
  rintro e w1 ⟨s, j, rfl, hj, hz, hc1, hC1⟩
  have hkn := known_at hz
  obtain ⟨q, hq, hqv, hqf⟩ := known_ok hkn
  have hss := known_size s hkn
  have HC1 := Lib.hid (((Chg.ofExt (F := [g]) xW).trans0 (alloc_ext W _)).trans hC1 (fun x hx => .inl hx))
  have HR1 := Lib.hid ((HR.out.toExt (alloc_ext W _)).chg hC1 (by simp; omega))
  have hz1 := hC1.size
  rw [World.size_alloc] at hz1
  have Hc1 := Lib.hid hc1
  have HQ := Lib.hid hq
  have HQD := Lib.hid (QrD.mk hqv hqf)
  clear hz hj hC1 hc1 hkn hq hqv hqf
  go_wp2_with fail
  refine (specParseQuery_any (by omega)).mono ?_
  rintro e w2 ⟨u0, u1, u2, F2, rfl, hx2, hS2, hN2, hF2⟩
  rw [HQ.out] at hS2 ⊢
  simp only [Option.getD_some, Option.isSome_some] at hS2 ⊢
  obtain ⟨A2, a2, B2, b2, rfl, rfl, rfl⟩ := sQ_form hS2
  obtain ⟨FA, FO, rfl, _, ⟨_, eA2, hA2⟩, hO2⟩ := sQ_get hS2
  injection eA2 with eA2
  subst eA2
  have hz2 := size_of_ext hx2
  have hFl := SMono.lt hS2
  have HN2 := Lib.hid hN2
  have HF2 := Lib.hid hF2
  clear hS2 hN2 hF2
  go_upto_region 3 with fail
  refine wp_name ?_
  intro W3 hW3
  have x3 : ∃ y, W3 = ext w2 y := by rw [hW3.out]; exact (by refine x'z ?_; repeat (with_reducible (first | apply x'a | apply x'b | exact x'c (by assumption) | refine x'd ?_ (by assumption) | apply x'e | apply x'f | apply x'g | apply x'h | apply x'i | apply x'j | apply x'k | apply x'l | apply x'm | assumption | (refine x'n ?_; omega) | omega)))
  have B3 : BoxAt W3 w2.heap.size #[.int .i64 q.1, .slice A2 q.2.1.length a2, .slice B2 q.2.2.length b2] := by rw [hW3.out]; exact (by repeat (with_reducible (first | assumption | exact BoxAt.new _ _ _ | apply BoxAt.set3 | refine BoxAt.set3' ?_ (by omega) | apply BoxAt.set30 | apply BoxAt.set31 | apply BoxAt.set32 | apply BoxAt.set2 | refine BoxAt.set2' ?_ (by omega) | apply BoxAt.setP0 | apply BoxAt.setP1 | refine BoxAt.setO ?_ (by omega) | refine BoxAt.alloc ?_ _ | refine BoxAt.drew ?_ | refine BoxAt.toExt ?_ (by assumption))))
  have x13 := trans_ext hx2 x3
  have HR3 := Lib.hid (HR1.out.toExt x13)
  have HC3 := Lib.hid (HC1.out.trans0 x13)
  have Hc3 := Lib.hid (Hc1.out.toExt x13)
  have HA3 := Lib.hid (hA2.toExt x3)
  have HO3 := Lib.hid (hO2.toExt x3)
  have hz3 := size_of_ext x3
  obtain ⟨b3, q3⟩ : ∃ b, w2.heap.size = b := ⟨_, rfl⟩
  have HF3 := Lib.hid (show ∀ b ∈ FA ++ FO, W.heap.size ≤ b ∧ b < b3 from fun b hb => ⟨by have := HF2.out b hb; omega, by have := hFl b hb; omega⟩)
  rw [q3] at B3 hz2 hz3 ⊢
  have hb3 : b3 < W3.heap.size := B3.1
  have n3g : b3 ≠ g := by omega
  have HB3 := Lib.hid B3
  clear hW3 B3 q3 hFl hA2 hO2 HF2 HR1 HC1 Hc1 x3 x13 hx2
  go_wp2_with fail
  refine (l1Once_any Hc3.out (by omega) (by omega)).mono ?_
  rintro e w4 ⟨t, rfl, hc4, hC4⟩
  have HB4 := Lib.hid (HB3.out.chg hC4 (by simpa using n3g))
  have HR4 := Lib.hid (HR3.out.chg hC4 (by simp; omega))
  have HC4 := Lib.hid (HC3.out.trans hC4 (fun x hx => .inl hx))
  have Hc4 := Lib.hid hc4
  have HA4 := Lib.hid (HA3.out.chg hC4 (fun b hb h => by have := HF3.out b (List.mem_append_left _ hb); rw [List.mem_singleton.1 h] at this; omega))
  have HO4 := Lib.hid (HO3.out.chg hC4 (fun b hb h => by have := HF3.out b (List.mem_append_right _ hb); rw [List.mem_singleton.1 h] at this; omega))
  have hz4 := hC4.size
  clear hc4 hC4 HB3 HR3 HC3 Hc3 HA3 HO3
  cases t with
  | false =>
    have HBB := HB4
    have HR9 := HR4
    have HA9 := HA4
    have HO9 := HO4
    have HF9 := Lib.hid (show ∀ b ∈ FA ++ FO, W.heap.size ≤ b from fun b hb => (HF3.out b hb).1)
    have HN9 := HN2
    have HD9 := HQD
    have Hc9 := Hc4
    have HC9 := HC4
    go_upto_region 4 with fail
    obtain ⟨lf1, kf10, kf11, kf12, ff1⟩ := box3 HBB.out
    obtain ⟨lf2, kf20, kf21, kf22, ff2⟩ := box3 HR9.out
    go_wp2_with fail
    refine bodyPost_ret (v := .agg #[.int .i64 q.1, .slice A2 q.2.1.length a2, .slice B2 q.2.2.length b2]) (by simp [results, Try.results187, go_sem, *]) rfl ?_
    show QrP w0 g w _ _
    have hC9 := ((((Chg.refl [w.heap.size] w4).setCell (p := ⟨w.heap.size, 0, none⟩) (.inl (by simp)) (.int .i64 q.1)).setCell (p := ⟨w.heap.size, 1, none⟩) (.inl (by simp)) (.slice A2 q.2.1.length a2)).setCell (p := ⟨w.heap.size, 2, none⟩) (.inl (by simp)) (.slice B2 q.2.2.length b2))
    exact ⟨_, _, _, (FA ++ FO), (q.1, q.2.1, q.2.2), rfl, OD.chg (sQ_mk HA9.out HO9.out) hC9 (fun b hb h => by have := HF9.out b hb; rw [List.mem_singleton.1 h] at this; omega), HN9.out, fun b hb => by have := HF9.out b hb; omega, HD9.out, Hc9.out.chg hC9 (by simp; omega) (by simp; omega), HC9.out.trans hC9 (fun x hx => .inr (by rw [List.mem_singleton.1 hx]; omega))⟩
  | true =>
    go_wp2_with fail
    refine (l1Below_any Hc4.out (by omega) (by omega)).mono ?_
    rintro e w5 ⟨x, rfl, hx0, hx1, hc5, hC5⟩
    obtain ⟨n, rfl⟩ : ∃ n : Nat, x = n := ⟨x.toNat, by omega⟩
    have HB5 := Lib.hid (HB4.out.chg hC5 (by simpa using n3g))
    have HR5 := Lib.hid (HR4.out.chg hC5 (by simp; omega))
    have HC5 := Lib.hid (HC4.out.trans hC5 (fun x hx => .inl hx))
    have Hc5 := Lib.hid hc5
    have HA5 := Lib.hid (HA4.out.chg hC5 (fun b hb h => by have := HF3.out b (List.mem_append_left _ hb); rw [List.mem_singleton.1 h] at this; omega))
    have HO5 := Lib.hid (HO4.out.chg hC5 (fun b hb h => by have := HF3.out b (List.mem_append_right _ hb); rw [List.mem_singleton.1 h] at this; omega))
    have hz5 := hC5.size
    clear hc5 hC5 HB4 HR4 HC4 Hc4 HA4 HO4
    go_upto_region 6 with fail
    refine wp_name ?_
    intro W6 hW6
    have x6 : ∃ y, W6 = ext w5 y := by rw [hW6.out]; exact (by refine x'z ?_; repeat (with_reducible (first | apply x'a | apply x'b | exact x'c (by assumption) | refine x'd ?_ (by assumption) | apply x'e | apply x'f | apply x'g | apply x'h | apply x'i | apply x'j | apply x'k | apply x'l | apply x'm | assumption | (refine x'n ?_; omega) | omega)))
    have B6 : BoxAt W6 w5.heap.size #[.int .i64 (1 + (n : Int)), .slice none 0 0, .slice none 0 0] := by rw [hW6.out]; exact (by repeat (with_reducible (first | assumption | exact BoxAt.new _ _ _ | apply BoxAt.set3 | refine BoxAt.set3' ?_ (by omega) | apply BoxAt.set30 | apply BoxAt.set31 | apply BoxAt.set32 | apply BoxAt.set2 | refine BoxAt.set2' ?_ (by omega) | apply BoxAt.setP0 | apply BoxAt.setP1 | refine BoxAt.setO ?_ (by omega) | refine BoxAt.alloc ?_ _ | refine BoxAt.drew ?_ | refine BoxAt.toExt ?_ (by assumption))))
    have HB6 := Lib.hid (HB5.out.toExt x6)
    have HR6 := Lib.hid (HR5.out.toExt x6)
    have HC6 := Lib.hid (HC5.out.trans0 x6)
    have Hc6 := Lib.hid (Hc5.out.toExt x6)
    have HA6 := Lib.hid (HA5.out.toExt x6)
    have HO6 := Lib.hid (HO5.out.toExt x6)
    have hz6 := size_of_ext x6
    obtain ⟨b6, q6⟩ : ∃ b, w5.heap.size = b := ⟨_, rfl⟩
    rw [q6] at B6 hz5 hz6 ⊢
    have hb6 : b6 < W6.heap.size := B6.1
    have n6g : b6 ≠ g := by omega
    have n63 : b6 ≠ b3 := by omega
    have HX6 := Lib.hid B6
    clear hW6 B6 q6 x6 HB5 HR5 HC5 Hc5 HA5 HO5
    go_wp2_with fail
    refine (l1Below_any Hc6.out (by omega) (by omega)).mono ?_
    rintro e w7 ⟨x, rfl, hy0, hy1, hc7, hC7⟩
    obtain ⟨m, rfl⟩ : ∃ m : Nat, x = m := ⟨x.toNat, by omega⟩
    have HB7 := Lib.hid (HB6.out.chg hC7 (by simpa using n3g))
    have HR7 := Lib.hid (HR6.out.chg hC7 (by simp; omega))
    have HC7 := Lib.hid (HC6.out.trans hC7 (fun x hx => .inl hx))
    have Hc7 := Lib.hid hc7
    have HA7 := Lib.hid (HA6.out.chg hC7 (fun b hb h => by have := HF3.out b (List.mem_append_left _ hb); rw [List.mem_singleton.1 h] at this; omega))
    have HO7 := Lib.hid (HO6.out.chg hC7 (fun b hb h => by have := HF3.out b (List.mem_append_right _ hb); rw [List.mem_singleton.1 h] at this; omega))
    have HX7 := Lib.hid (HX6.out.chg hC7 (by simpa using n6g))
    have hz7 := hC7.size
    clear hc7 hC7 HB6 HR6 HC6 Hc6 HA6 HO6 HX6
    obtain ⟨N, hN⟩ : ∃ N : Nat, 1 + n = N := ⟨_, rfl⟩
    have hNv : (1 : Int) + (n : Int) = (N : Int) := by omega
    rw [hNv] at HX7
    have hN4 : N ≤ 4 := by omega
    have hN1 : 1 ≤ N := by omega
    clear hN hNv
    go_wp2_with fail
    go_loopw [7] (fun i wr => ∃ (k : Nat) (A : Option Addr) (c : Nat) (ats : List At) (F : List Nat), i = .int .i64 k ∧ Hid (BoxAt wr b6 #[.int .i64 N, .slice A ats.length c, .slice none 0 0]) ∧ Hid (SV 81 2 sAt wr (.slice A ats.length c) ats F) ∧ Hid F.Nodup ∧ Hid (∀ b ∈ F, w7.heap.size ≤ b) ∧ Hid (∀ x ∈ ats, x.1.size ≤ 4 ∧ x.2.length ≤ 5) ∧ ats.length + k ≤ 4 ∧ Hid (Cur w0 wr g) ∧ Hid (Chg [g, b6] w7 wr)) (fun i _ => (intOf i).toNat)
    case atStart => exact ⟨m + 1, none, 0, [], [], by rw [show (1 : Int) + (m : Int) = ((m + 1 : Nat) : Int) by omega], HX7, Lib.hid SV.nil, Lib.hid (by simp), Lib.hid (by simp), Lib.hid (by simp), by simp; omega, Hc7, Lib.hid (Chg.refl _ _)⟩
    case round =>
      clear hx0 hx1 hy0 hy1 HX7 Hc7
      obtain ⟨k, A, c, ats, F, rfl, HB, HS, HN, HF, HT, hl, Hcr, HC⟩ := hrel
      obtain ⟨wL, rfl⟩ : ∃ W, W = wr := ⟨_, rfl⟩
      have hzL := HC.out.size
      by_cases hlt : 0 < k
      · go_wp2_with fail
        refine (l1Below_any Hcr.out (by omega) (by omega)).mono ?_
        rintro e w8 ⟨x, rfl, hx0, hx1, hc8, hC8⟩
        obtain ⟨k8, rfl⟩ : ∃ n : Nat, x = n := ⟨x.toNat, by omega⟩
        have hk8 : k8 < 5 := by omega
        have HB8 := Lib.hid (HB.out.chg hC8 (by simpa using n6g))
        have HS8 := Lib.hid (HS.out.chg hC8 (fun b hb h => by have := HF.out b hb; rw [List.mem_singleton.1 h] at this; omega))
        have HC8 := Lib.hid (HC.out.trans hC8 (fun x hx => .inl (by rw [List.mem_singleton.1 hx]; simp)))
        have Hc8 := Lib.hid hc8
        have hz8 := hC8.size
        clear hc8 hC8
        go_upto_region 10 with fail
        go_cut [9] (fun v wx => ∃ s : ByteArray, v = .pointer (some ⟨w8.heap.size + 1, 0, none⟩) ∧ s.size = 1 ∧ BoxAt wx (w8.heap.size + 1) #[.string s, .slice none 0 0] ∧ ∃ y, wx = ext w8 y)
        case first =>
          rcases k8 with _ | _ | _ | _ | _ | k8
          any_goals omega
          all_goals
            go_wp2_with fail
            go_meet
            refine ⟨_, rfl, ?_, (by first | exact box_second | exact box_second.set2), (by refine x'z ?_; repeat (with_reducible (first | apply x'a | apply x'b | exact x'c (by assumption) | refine x'd ?_ (by assumption) | apply x'e | apply x'f | apply x'g | apply x'h | apply x'i | apply x'j | apply x'k | apply x'l | apply x'm | assumption | (refine x'n ?_; omega) | omega)))⟩
            rfl
        obtain ⟨s, rfl, hs1, B9, x10⟩ := hcut
        obtain ⟨W10, rfl⟩ : ∃ W, W = wc := ⟨_, rfl⟩
        have HB10 := Lib.hid (HB8.out.toExt x10)
        have HS10 := Lib.hid (HS8.out.toExt x10)
        have HC10 := Lib.hid (HC8.out.trans0 x10)
        have Hc10 := Lib.hid (Hc8.out.toExt x10)
        have hz10 := size_of_ext x10
        obtain ⟨b9, q9⟩ : ∃ b, w8.heap.size + 1 = b := ⟨_, rfl⟩
        have hb9l : w8.heap.size < b9 := by omega
        rw [q9] at B9 ⊢
        have hb9 : b9 < W10.heap.size := B9.1
        have n9g : b9 ≠ g := by omega
        have n96 : b9 ≠ b6 := by omega
        have n9F : Hid (b9 ∉ F) := Lib.hid (fun h => by have := HS8.out.lt b9 h; omega)
        have HX10 := Lib.hid B9
        clear B9 q9 x10 HB8 HS8 HC8 Hc8
        go_wp2_with fail
        go_loopw [10] (fun i wr => ∃ (j : Nat) (A' : Option Addr) (c' : Nat) (vs : List Int) (F' : List Nat), i = .int .i64 j ∧ Hid (BoxAt wr b9 #[.string s, .slice A' vs.length c']) ∧ Hid (SV 3 1 sI wr (.slice A' vs.length c') vs F') ∧ Hid (∀ b ∈ F', W10.heap.size ≤ b) ∧ vs.length + j ≤ 3 ∧ Hid (Cur w0 wr g) ∧ Hid (Chg [g, b9] W10 wr)) (fun i _ => (intOf i).toNat)
        case atStart => exact ⟨2 + k8 / 4, none, 0, [], [], by rw [show (2 : Int) + (k8 : Int) / 4 = ((2 + k8 / 4 : Nat) : Int) by omega], HX10, Lib.hid SV.nil, Lib.hid (by simp), by simp; omega, Hc10, Lib.hid (Chg.refl _ _)⟩
        case round =>
          obtain ⟨j, A', c', vs, F', rfl, HB9, HS9, HF9, hl9, Hcr9, HC9⟩ := hrel
          have hz9 := HC9.out.size
          have HBr := Lib.hid (HB10.out.chg HC9.out (by simp; omega))
          have h9r := HB9.out.1
          by_cases hj : 0 < j
          · have ng9 : Hid (∀ b ∈ F', b ∉ [g]) := Lib.hid (fun b hb h => by have := HF9.out b hb; rw [List.mem_singleton.1 h] at this; omega)
            have n9F9 : Hid (b9 ∉ F') := Lib.hid (fun h => by have := HF9.out b9 h; omega)
            obtain ⟨l9, k90, k91, f9⟩ := bx2 HB9.out
            obtain ⟨l6, k60, k61, k62, f6⟩ := box3 HBr.out
            go_upto_region 14 with fail
            go_region_law (first
              | (refine step_app1 (E := sI) (d := y) (by rfl) _ _ _ (by rfl) tI (by rfl) (by rfl) (by rfl) (by rfl) (fun _ => ⟨rfl, rfl⟩) (by rfl) (by simp [Value.oneCell']) HSA.out (by omega) (by omega) ?_; intro v7 w7' F7 hS7 hC7 hF7; obtain ⟨A7, c7, rfl, _, _⟩ := hS7.form; have B7 := HBA.out.chg hC7 n9F9.out; obtain ⟨l7, k7, k7', f7⟩ := bx2 B7)
              | (rw [if_pos (by simp [Region.wanted])]; go_wp2_with (go_at_call 136; refine (l1Below_any (Hcr9.out.toExt (by refine x'z ?_; repeat (with_reducible (first | apply x'a | apply x'b | exact x'c (by assumption) | refine x'd ?_ (by assumption) | apply x'e | apply x'f | apply x'g | apply x'h | apply x'i | apply x'j | apply x'k | apply x'l | apply x'm | assumption | (refine x'n ?_; omega) | omega)))) (by omega) (by omega)).mono ?_; rintro e wa ⟨y, rfl, hya, hyb, hca, hCa⟩; have HSA := Lib.hid ((HS9.out.toExt (by refine x'z ?_; repeat (with_reducible (first | apply x'a | apply x'b | exact x'c (by assumption) | refine x'd ?_ (by assumption) | apply x'e | apply x'f | apply x'g | apply x'h | apply x'i | apply x'j | apply x'k | apply x'l | apply x'm | assumption | (refine x'n ?_; omega) | omega)))).chg hCa ng9.out); have HBA := Lib.hid ((HB9.out.toExt (by refine x'z ?_; repeat (with_reducible (first | apply x'a | apply x'b | exact x'c (by assumption) | refine x'd ?_ (by assumption) | apply x'e | apply x'f | apply x'g | apply x'h | apply x'i | apply x'j | apply x'k | apply x'l | apply x'm | assumption | (refine x'n ?_; omega) | omega)))).chg hCa (by simpa using n9g)); have HCA := Lib.hid (show Chg [g, b9] W10 wa from (HC9.out.trans0 (by refine x'z ?_; repeat (with_reducible (first | apply x'a | apply x'b | exact x'c (by assumption) | refine x'd ?_ (by assumption) | apply x'e | apply x'f | apply x'g | apply x'h | apply x'i | apply x'j | apply x'k | apply x'l | apply x'm | assumption | (refine x'n ?_; omega) | omega)))).trans hCa (fun x hx => .inl (by rw [List.mem_singleton.1 hx]; simp))); have Hca := Lib.hid hca; have hza := hCa.size; obtain ⟨la, ka, ka', fa⟩ := bx2 HBA.out; clear hca hCa)))
            all_goals
              have hl7 : (vs ++ [y]).length = vs.length + 1 := by simp
              (try rw [hl7] at hS7)
              have hF7n : ∀ b ∈ F7, W10.heap.size ≤ b := fun b hb => by
                rcases hF7 b hb with h | h
                · exact HF9.out b h
                · have := HCA.out.size; omega
              have hsC := (Chg.refl [b9] w7').setCell (p := ⟨b9, 1, none⟩) (.inl (by simp)) (.slice A7 (vs.length + 1) c7)
              have HB' := Lib.hid (B7.setP1 (v' := .slice A7 (vs.length + 1) c7))
              have HS' := Lib.hid (hS7.chg hsC (fun b hb h => by have := hF7n b hb; rw [List.mem_singleton.1 h] at this; omega))
              have Hc' := Lib.hid (((Hca.out.chg hC7 (fun h => ng9.out g h (by simp)) (fun b hb => by have := HF9.out b hb; omega))).chg hsC (by simpa using fun h => n9g h.symm) (by simp; omega))
              have HC' := Lib.hid ((HCA.out.trans hC7 (fun x hx => .inr (HF9.out x hx))).trans hsC (fun x hx => .inl (by rw [List.mem_singleton.1 hx]; simp)))
              have HF' := Lib.hid hF7n
              clear hF7n hsC hS7 hC7 hF7 B7
              go_wp2_with fail
              exact ⟨⟨j - 1, A7, c7, vs ++ [y], F7, by go_num, by rw [hl7]; exact HB', by rw [hl7]; exact HS', HF', by rw [hl7]; omega, Hc', HC'⟩, by simp [intOf]; omega⟩
          · have HSr := Lib.hid (HS10.out.chg HC9.out (fun b hb h => by
              rcases List.mem_cons.1 h with h | h
              · have := HF.out b hb; omega
              · rw [List.mem_singleton.1 h] at hb; exact n9F.out hb))
            have HNN := Lib.hid (nodup_more HN.out HS9.out.nodup HS10.out.lt HF9.out)
            have HCr := Lib.hid (show Chg [g, b6] w7 wr from HC10.out.trans HC9.out (fun x hx => by
              rcases List.mem_cons.1 hx with h | h
              · exact .inl (by rw [h]; simp)
              · rw [List.mem_singleton.1 h]; exact .inr (by omega)))
            have n6F : Hid (b6 ∉ F) := Lib.hid (fun h => by have := HF.out b6 h; omega)
            obtain ⟨l9, k90, k91, f9⟩ := bx2 HB9.out
            obtain ⟨l6, k60, k61, k62, f6⟩ := box3 HBr.out
            go_wp2_with (at_builtin; refine wpList_appN (E := sAt) (d := (s, vs)) (G := F') rfl _ _ _ rfl tA rfl rfl rfl (by simp) (sAt_mk HS9.out) rfl (by simp [Value.oneCell']) HSr.out HNN.out (by omega) (by omega) ?_; intro v8 w8' F8 hS8 hC8 hN8 hF8; obtain ⟨A8, c8, rfl, _, _⟩ := hS8.form; have B8 := HBr.out.chg hC8 n6F.out; obtain ⟨l8, k80, k81, k82, f8⟩ := box3 B8)
            have hl8 : (ats ++ [(s, vs)]).length = ats.length + 1 := by simp
            (try rw [hl8] at hS8)
            have hF8n : ∀ b ∈ F8, w7.heap.size ≤ b := fun b hb => by
              rcases hF8 b hb with h | h | h
              · exact HF.out b h
              · have := HF9.out b h; omega
              · omega
            have hsC := (Chg.refl [b6] w8').setCell (p := ⟨b6, 1, none⟩) (.inl (by simp)) (.slice A8 (ats.length + 1) c8)
            have hz8' := hC8.size
            exact ⟨⟨k - 1, A8, c8, ats ++ [(s, vs)], F8, by go_num, Lib.hid (by rw [hl8]; exact B8.set31), Lib.hid (by rw [hl8]; exact hS8.chg hsC (fun b hb h => by have := hF8n b hb; rw [List.mem_singleton.1 h] at this; omega)), Lib.hid hN8, Lib.hid hF8n, Lib.hid (fun t ht => by
              rcases List.mem_append.1 ht with h | h
              · exact HT.out t h
              · rw [List.mem_singleton.1 h]; exact ⟨by dsimp only; omega, by dsimp only; omega⟩), by rw [hl8]; omega, Lib.hid ((Hcr9.out.chg hC8 (fun h => by have := HF.out g h; omega) (fun b hb => by have := HF.out b hb; omega)).chg hsC (by simpa using fun h => n6g h.symm) (by simp; omega)), Lib.hid ((HCr.out.trans hC8 (fun x hx => .inr (HF.out x hx))).trans hsC (fun x hx => .inl (by rw [List.mem_singleton.1 hx]; simp)))⟩, by simp [intOf]; omega⟩
      · go_wp2_with fail
        go_loopw [11] (fun i wr => ∃ (v : Nat) (B : Option Addr) (e : Nat) (out : List Int) (FB : List Nat), i = .int .i64 v ∧ v ≤ N ∧ Hid (BoxAt wr b6 #[.int .i64 N, .slice A ats.length c, .slice B out.length e]) ∧ Hid (SV 3 1 sI wr (.slice B out.length e) out FB) ∧ Hid (∀ b ∈ FB, wL.heap.size ≤ b) ∧ out.length ≤ v ∧ Hid (Cur w0 wr g) ∧ Hid (Chg [g, b6] wL wr)) (fun i _ => N - (intOf i).toNat)
        case atStart => exact ⟨0, none, 0, [], [], rfl, by omega, HB, Lib.hid SV.nil, Lib.hid (by simp), by simp, Hcr, Lib.hid (Chg.refl _ _)⟩
        case round =>
          obtain ⟨v, B, e, out, FB, rfl, hv, HX, HO, HFB, hlo, HcR, HCR⟩ := hrel
          have hzR := HCR.out.size
          obtain ⟨l6, k60, k61, k62, f6⟩ := box3 HX.out
          by_cases hvl : v < N
          · go_wp2_with fail
            refine (l1Once_any HcR.out (by omega) (by omega)).mono ?_
            rintro e' wa ⟨t, rfl, hca, hCa⟩
            have HXa := Lib.hid (HX.out.chg hCa (by simpa using n6g))
            have HOa := Lib.hid (HO.out.chg hCa (fun b hb h => by have := HFB.out b hb; rw [List.mem_singleton.1 h] at this; omega))
            have HCA := Lib.hid (HCR.out.trans hCa (fun x hx => .inl (by rw [List.mem_singleton.1 hx]; simp)))
            have Hca := Lib.hid hca
            have hza := hCa.size
            clear hca hCa
            cases t with
            | false =>
              go_wp2_with fail
              exact ⟨⟨v + 1, B, e, out, FB, by go_num, by omega, HXa, HOa, HFB, by omega, Hca, HCA⟩, by simp [intOf]; omega⟩
            | true =>
              have hS1 := SV.lit (te := 3) (E := sI) (u := .int .i64 (v : Int)) (d := (v : Int)) wa (fun _ => ⟨rfl, rfl⟩)
              have hO1 : RI (wa.alloc (.cells #[.int .i64 (v : Int)] 3)) B out := (HOa.out.toExt (alloc_ext _ _)).toView sI_v
              have B1 := HXa.out.alloc (.cells #[.int .i64 (v : Int)] 3)
              obtain ⟨l1, k10, k11, k12, f1⟩ := box3 B1
              clear l6 k60 k61 k62 f6
              go_wp2_with (at_builtin; refine wpList_appV (E := sI) (V := vI) (es := out) rfl _ _ _ rfl tI rfl hS1 rfl rfl hO1 vI_s vI_1 (by simp; omega) (by omega) ?_; intro v7 w7' F7 hS7 hC7 hF7; obtain ⟨A7, c7, rfl, _, _⟩ := hS7.form; have B7 := B1.chg hC7 (by simp; omega); obtain ⟨l7, k70, k71, k72, f7⟩ := box3 B7)
              have hl7 : ([(v : Int)] ++ out).length = out.length + 1 := by simp
              (try rw [hl7] at hS7)
              have hF7n : ∀ b ∈ F7, wL.heap.size ≤ b := fun b hb => by
                rcases hF7 b hb with h | h
                · rw [List.mem_singleton.1 h]; omega
                · simp at h; omega
              have hsC := (Chg.refl [b6] w7').setCell (p := ⟨b6, 2, none⟩) (.inl (by simp)) (.slice A7 (out.length + 1) c7)
              have hCw : Chg [g, b6] wL w7' := (HCA.out.alloc (.cells #[.int .i64 (v : Int)] 3)).trans hC7 (fun x hx => .inr (by rw [List.mem_singleton.1 hx]; omega))
              have hz7' := hC7.size
              rw [World.size_alloc] at hz7'
              exact ⟨⟨v + 1, A7, c7, [(v : Int)] ++ out, F7, by go_num, by omega, Lib.hid (by rw [hl7]; exact B7.set32), Lib.hid (by rw [hl7]; exact hS7.chg hsC (fun b hb h => by have := hF7n b hb; rw [List.mem_singleton.1 h] at this; omega)), Lib.hid hF7n, by rw [List.length_append, List.length_singleton]; omega, Lib.hid (((Hca.out.toExt (alloc_ext _ _)).chg hC7 (by simp; omega) (by simp; omega)).chg hsC (by simpa using fun h => n6g h.symm) (by simp; omega)), Lib.hid (hCw.trans hsC (fun x hx => .inl (by rw [List.mem_singleton.1 hx]; simp)))⟩, by simp [intOf]; omega⟩
          · have HA := Lib.hid (HS.out.chg HCR.out (fun b hb h => by
              have := HF.out b hb
              rcases List.mem_cons.1 h with h | h
              · omega
              · rw [List.mem_singleton.1 h] at this; omega))
            have HNB := Lib.hid (nodup_more HN.out HO.out.nodup HS.out.lt HFB.out)
            have hWQ : WQ ((N : Int), ats, out) := ⟨⟨by dsimp only; omega, by dsimp only; omega⟩, ⟨by dsimp only; omega, fun x hx => by have := HT.out x hx; omega⟩, by dsimp only; omega⟩
            have HWQ := Lib.hid hWQ
            have HCW := Lib.hid (show Chg [g, b6] w7 wr from HC.out.trans HCR.out (fun x hx => .inl hx))
            have HBr := Lib.hid (HB7.out.chg HCW.out (by simp; omega))
            have HRr := Lib.hid (HR7.out.chg HCW.out (by simp; omega))
            have HCw := Lib.hid (HC7.out.trans HCW.out (fun x hx => by
              rcases List.mem_cons.1 hx with h | h
              · exact .inl (by rw [h]; simp)
              · rw [List.mem_singleton.1 h]; exact .inr (by omega)))
            have HAr := Lib.hid (HA7.out.chg HCW.out (fun b hb h => by
              have := HF3.out b (List.mem_append_left _ hb)
              rcases List.mem_cons.1 h with h | h
              · omega
              · rw [List.mem_singleton.1 h] at this; omega))
            have HOr := Lib.hid (HO7.out.chg HCW.out (fun b hb h => by
              have := HF3.out b (List.mem_append_right _ hb)
              rcases List.mem_cons.1 h with h | h
              · omega
              · rw [List.mem_singleton.1 h] at this; omega))
            clear hWQ HB7 HR7 HA7 HO7 HC7
            go_wp2_with fail
            refine (specIsValidQuery_w (d := ((N : Int), ats, out)) HWQ.out (sQ_v _ _ _ (sQ_mk HA.out HO.out))).mono ?_
            rintro e' wb ⟨rfl, hxb⟩
            have HHX := Lib.hid hxb
            have Hc9 := Lib.hid (HcR.out.toExt hxb)
            have HC9 := Lib.hid (HCw.out.trans0 hxb)
            have HR9 := Lib.hid (HRr.out.toExt hxb)
            have hzb := size_of_ext hxb
            clear hxb l6 k60 k61 k62 f6
            by_cases hvq : vqB ((N : Int), ats, out) = true
            · rw [hvq]
              have HBB := Lib.hid (HX.out.toExt HHX.out)
              have HA9 := Lib.hid (HA.out.toExt HHX.out)
              have HO9 := Lib.hid (HO.out.toExt HHX.out)
              have HF9 := Lib.hid (show ∀ b ∈ F ++ FB, W.heap.size ≤ b from fun b hb => by
                rcases List.mem_append.1 hb with h | h
                · have := HF.out b h; omega
                · have := HFB.out b h; omega)
              have HN9 := HNB
              have HD9 := Lib.hid (show QrD ((N : Int), ats, out) from ⟨hvq, .inl (by dsimp only; omega)⟩)
              clear hvq
              obtain ⟨lf1, kf10, kf11, kf12, ff1⟩ := box3 HBB.out
              obtain ⟨lf2, kf20, kf21, kf22, ff2⟩ := box3 HR9.out
              go_wp2_with fail
              refine bodyPost_ret (v := .agg #[.int .i64 (N : Int), .slice A ats.length c, .slice B out.length e]) (by simp [results, Try.results187, go_sem, *]) rfl ?_
              show QrP w0 g w _ _
              have hC9 := ((((Chg.refl [w.heap.size] wb).setCell (p := ⟨w.heap.size, 0, none⟩) (.inl (by simp)) (.int .i64 (N : Int))).setCell (p := ⟨w.heap.size, 1, none⟩) (.inl (by simp)) (.slice A ats.length c)).setCell (p := ⟨w.heap.size, 2, none⟩) (.inl (by simp)) (.slice B out.length e))
              exact ⟨_, _, _, (F ++ FB), ((N : Int), ats, out), rfl, OD.chg (sQ_mk HA9.out HO9.out) hC9 (fun b hb h => by have := HF9.out b hb; rw [List.mem_singleton.1 h] at this; omega), HN9.out, fun b hb => by have := HF9.out b hb; omega, HD9.out, Hc9.out.chg hC9 (by simp; omega) (by simp; omega), HC9.out.trans hC9 (fun x hx => .inr (by rw [List.mem_singleton.1 hx]; omega))⟩
            · rw [Bool.eq_false_iff.2 hvq]
              have HBB := Lib.hid (HBr.out.toExt HHX.out)
              have HA9 := Lib.hid (HAr.out.toExt HHX.out)
              have HO9 := Lib.hid (HOr.out.toExt HHX.out)
              have HF9 := Lib.hid (show ∀ b ∈ FA ++ FO, W.heap.size ≤ b from fun b hb => (HF3.out b hb).1)
              have HN9 := HN2
              have HD9 := HQD
              clear hvq
              obtain ⟨lf1, kf10, kf11, kf12, ff1⟩ := box3 HBB.out
              obtain ⟨lf2, kf20, kf21, kf22, ff2⟩ := box3 HR9.out
              go_wp2_with fail
              refine bodyPost_ret (v := .agg #[.int .i64 q.1, .slice A2 q.2.1.length a2, .slice B2 q.2.2.length b2]) (by simp [results, Try.results187, go_sem, *]) rfl ?_
              show QrP w0 g w _ _
              have hC9 := ((((Chg.refl [w.heap.size] wb).setCell (p := ⟨w.heap.size, 0, none⟩) (.inl (by simp)) (.int .i64 q.1)).setCell (p := ⟨w.heap.size, 1, none⟩) (.inl (by simp)) (.slice A2 q.2.1.length a2)).setCell (p := ⟨w.heap.size, 2, none⟩) (.inl (by simp)) (.slice B2 q.2.2.length b2))
              exact ⟨_, _, _, (FA ++ FO), (q.1, q.2.1, q.2.2), rfl, OD.chg (sQ_mk HA9.out HO9.out) hC9 (fun b hb h => by have := HF9.out b hb; rw [List.mem_singleton.1 h] at this; omega), HN9.out, fun b hb => by have := HF9.out b hb; omega, HD9.out, Hc9.out.chg hC9 (by simp; omega) (by simp; omega), HC9.out.trans hC9 (fun x hx => .inr (by rw [List.mem_singleton.1 hx]; omega))⟩
end Go.Proofs.Ytfigcfajkilhiaa

/- The reference's draws of queries that may be out of form. -/
namespace Go.Proofs.Ytfigcfajkilhiaa
open Go.RowKit
theorem lit_second {α : Type} {te : Nat} {E : SE α} {u : Value} {d : α} {w : World} {cs : Array Value} {t : TypeId} (hE : ∀ w, E w [u] d []) : SV te 1 E ((w.alloc (.cells cs t)).alloc (.cells #[u] te)) (.slice (some ⟨w.heap.size + 1, 0, none⟩) 1 1) [d] [w.heap.size + 1] := by
  have h := SV.lit (te := te) (u := u) (d := d) (w.alloc (.cells cs t)) hE
  rw [World.size_alloc] at h
  exact h
structure QaD (q : Qd) : Prop where
  lo : 0 ≤ q.1
  hi : q.1 ≤ 6
  n1 : 1 ≤ q.2.1.length
  n : q.2.1.length ≤ 5
  a : ∀ x ∈ q.2.1, x.1.size ≤ 4 ∧ x.2.length ≤ 5
  o : q.2.2.length ≤ 6
  f : FewV q
theorem cAt_sum : ∀ {l : List At}, (∀ x ∈ l, x.1.size ≤ 4 ∧ x.2.length ≤ 5) → (l.map cAt).sum ≤ 9 * l.length
  | [], _ => by simp
  | x :: l, h => by
    have h1 := cAt_sum (l := l) fun y hy => h y (by simp [hy])
    have h2 := h x (by simp)
    rw [List.map_cons, List.sum_cons, List.length_cons]
    unfold cAt at h1 ⊢
    omega
theorem QaD.b {q : Qd} (h : QaD q) : BQ q := ⟨⟨by have := h.lo; omega, by have := h.hi; omega⟩, ⟨by have := h.n; omega, by have := cAt_sum h.a; have := h.n; omega⟩, by have := h.o; omega⟩
theorem QrD.q {q : Qd} (h : QrD q) : QaD q := by
  obtain ⟨h1, h2, h3⟩ := vqB_facts h.v
  exact ⟨by have := h.i; omega, by have := h.i; omega, h.n.1, by omega, h3, by omega, fun _ => h.f⟩
def QaP (w0 : World) (g : Nat) (w : World) (e : Ending) (w' : World) : Prop := ∃ v0 v1 v2 F q, e = .returned (.agg #[v0, v1, v2]) ∧ sQ w' [v0, v1, v2] q F ∧ F.Nodup ∧ (∀ b ∈ F, w.heap.size ≤ b) ∧ QaD q ∧ Cur w0 w' g ∧ Chg [g] w w'
set_option maxRecDepth 100000 in
set_option maxHeartbeats 80000000 in
theorem l7Any_any {g : Nat} {w0 w : World} (hc : Cur w0 w g) : Calls Try.prog 145 #[.pointer (some ⟨g, 0, none⟩)] w (QaP w0 g w) := by
  have hgw := hc.lt
  have hw0w := size_of_ext hc.2.1
  have Hc0 := Lib.hid hc
  clear hc
  go_enter Try.func145, Try.ntmps145
  go_upto_region 1 with fail
  refine wp_name ?_
  intro W hW
  have xW : ∃ y, W = ext w y := by rw [hW.out]; exact (by refine x'z ?_; repeat (with_reducible (first | apply x'a | apply x'b | exact x'c (by assumption) | refine x'd ?_ (by assumption) | apply x'e | apply x'f | apply x'g | apply x'h | apply x'i | apply x'j | apply x'k | apply x'l | apply x'm | assumption | (refine x'n ?_; omega) | omega)))
  have BW0 : BoxAt W (w.heap.size) #[.int .i64 0, .slice none 0 0, .slice none 0 0] := by rw [hW.out]; refine ⟨?_, fun j => ?_, fun j => ?_⟩ <;> go_simp
  obtain ⟨lW0, bW0, fW0⟩ := BW0
  have cW0_0 : W.cell? ⟨w.heap.size, 0, none⟩ = some (.int .i64 0) := bW0 0
  have cW0_1 : W.cell? ⟨w.heap.size, 1, none⟩ = some (.slice none 0 0) := bW0 1
  have cW0_2 : W.cell? ⟨w.heap.size, 2, none⟩ = some (.slice none 0 0) := bW0 2
  clear hW
  have HR := Lib.hid (show BoxAt W w.heap.size #[.int .i64 0, .slice none 0 0, .slice none 0 0] from ⟨lW0, bW0, fW0⟩)
  clear bW0 fW0 cW0_0 cW0_1 cW0_2
  have hzW := size_of_ext xW
  go_wp2_with fail
  refine (l7Query_any (Hc0.out.toExt xW)).mono ?_
  rintro e w2 ⟨u0, u1, u2, F2, q, rfl, hS2, hN2, hF2, hQ2, hc2, hC2⟩
  obtain ⟨A2, a2, B2, b2, rfl, rfl, rfl⟩ := sQ_form hS2
  obtain ⟨FA, FO, rfl, _, ⟨_, eA2, hA2⟩, hO2⟩ := sQ_get hS2
  injection eA2 with eA2
  subst eA2
  have hFl := SMono.lt hS2
  have HN := Lib.hid hN2
  have HF2 := Lib.hid hF2
  have HQ := Lib.hid hQ2
  have HC2 := Lib.hid ((Chg.ofExt (F := [g]) xW).trans hC2 (fun x hx => .inl hx))
  have HR2 := Lib.hid (HR.out.chg hC2 (by simp; omega))
  have hz2 := hC2.size
  have hn1 := hQ2.n.1
  have hq1 := hQ2.i.1
  have hq5 := hQ2.i.2
  obtain ⟨hn4, ho5, hAB⟩ := vqB_facts hQ2.v
  have HAB := Lib.hid hAB
  have Hc2 := Lib.hid hc2
  clear hS2 hN2 hF2 hQ2 hC2 hAB hc2
  go_upto_region 2 with fail
  refine wp_name ?_
  intro W3 hW3
  have x3 : ∃ y, W3 = ext w2 y := by rw [hW3.out]; exact (by refine x'z ?_; repeat (with_reducible (first | apply x'a | apply x'b | exact x'c (by assumption) | refine x'd ?_ (by assumption) | apply x'e | apply x'f | apply x'g | apply x'h | apply x'i | apply x'j | apply x'k | apply x'l | apply x'm | assumption | (refine x'n ?_; omega) | omega)))
  have B3 : BoxAt W3 w2.heap.size #[.int .i64 q.1, .slice A2 q.2.1.length a2, .slice B2 q.2.2.length b2] := by rw [hW3.out]; exact (by repeat (with_reducible (first | assumption | exact BoxAt.new _ _ _ | apply BoxAt.set3 | refine BoxAt.set3' ?_ (by omega) | apply BoxAt.set30 | apply BoxAt.set31 | apply BoxAt.set32 | apply BoxAt.set2 | refine BoxAt.set2' ?_ (by omega) | apply BoxAt.setP0 | apply BoxAt.setP1 | refine BoxAt.setO ?_ (by omega) | refine BoxAt.alloc ?_ _ | refine BoxAt.drew ?_ | refine BoxAt.toExt ?_ (by assumption))))
  have HR3 := Lib.hid (HR2.out.toExt x3)
  have HC3 := Lib.hid (HC2.out.trans0 x3)
  have Hc3 := Lib.hid (Hc2.out.toExt x3)
  have HA3 := Lib.hid (hA2.toExt x3)
  have HO3 := Lib.hid (hO2.toExt x3)
  have hz3 := size_of_ext x3
  obtain ⟨b3, q3⟩ : ∃ b, w2.heap.size = b := ⟨_, rfl⟩
  have HF := Lib.hid (show ∀ b ∈ FA ++ FO, W.heap.size ≤ b ∧ b < b3 from fun b hb => ⟨by have := HF2.out b hb; omega, by have := hFl b hb; omega⟩)
  rw [q3] at B3 hz2 hz3 ⊢
  have hb3 : b3 < W3.heap.size := B3.1
  have n3g : b3 ≠ g := by omega
  have HB3 := Lib.hid B3
  clear hW3 B3 q3 hFl hA2 hO2 HF2 HR2 HC2 Hc2 x3
  go_wp2_with fail
  refine (l1Below_any Hc3.out (by omega) (by omega)).mono ?_
  rintro e w5 ⟨x, rfl, hx0, hx1, hc5, hC5⟩
  have HFA := Lib.hid (show ∀ b ∈ FA, W.heap.size ≤ b ∧ b < b3 from fun b hb => HF.out b (List.mem_append_left _ hb))
  have HFO := Lib.hid (show ∀ b ∈ FO, W.heap.size ≤ b ∧ b < b3 from fun b hb => HF.out b (List.mem_append_right _ hb))
  have HB5 := Lib.hid (HB3.out.chg hC5 (by simpa using n3g))
  have HR5 := Lib.hid (HR3.out.chg hC5 (by simp; omega))
  have HC5 := Lib.hid (HC3.out.trans hC5 (fun x hx => .inl hx))
  have HA5 := Lib.hid (HA3.out.chg hC5 (fun b hb h => by have := HFA.out b hb; rw [List.mem_singleton.1 h] at this; omega))
  have HO5 := Lib.hid (HO3.out.chg hC5 (fun b hb h => by have := HFO.out b hb; rw [List.mem_singleton.1 h] at this; omega))
  have hz5 := hC5.size
  have Hc5 := Lib.hid hc5
  have hg5 := Hc5.out.lt
  clear hc5 hC5 HB3 HR3 HC3 Hc3 HA3 HO3
  obtain ⟨l5, k50, k51, k52, f5⟩ := box3 HB5.out
  by_cases e0 : x = 0
  · have q0 : (x == 0) = true := by simp [e0]
    have q1 : (x == 1) = false := by simp [e0]
    have q2 : (x == 2) = false := by simp [e0]
    have q3 : (x == 3) = false := by simp [e0]
    have q4 : (x == 4) = false := by simp [e0]
    clear e0
    have ik : IntKind.i64.wrap (q.1 + 1) = q.1 + 1 := by rw [IntKind.wrap_i64]; omega
    go_wp2_with fail
    refine (l1PickInt_any (m := 3) (Hc5.out.toExt (alloc_ext _ _)) (by omega) (by omega) (BoxAt.new _ _ _) (by intro j hj; rcases j with _ | _ | _ | j <;> first | exact ⟨_, rfl⟩ | omega) (by omega)).mono ?_
    rintro e w6 ⟨z, j, rfl, hj, hz, hc6, hC6⟩
    have hzb : z = 0 ∨ z = 6 ∨ z = q.1 + 1 := by
      rcases j with _ | _ | _ | j
      · injection hz with hz; injection hz with _ hz; exact .inl hz.symm
      · injection hz with hz; injection hz with _ hz; exact .inr (.inl hz.symm)
      · injection hz with hz; injection hz with _ hz; exact .inr (.inr hz.symm)
      · omega
    have xa := alloc_ext w5 (.cells #[.int .i64 0, .int .i64 6, .int .i64 (q.1 + 1)] 3)
    have B6 := (HB5.out.toExt xa).chg hC6 (by simpa using n3g)
    have hsC := (Chg.refl [b3] w6).setCell (p := ⟨b3, 0, none⟩) (.inl (by simp)) (.int .i64 z)
    have HB9 := Lib.hid (B6.set30 (u := .int .i64 z))
    have HR9 := Lib.hid (((HR5.out.toExt xa).chg hC6 (by simp; omega)).chg hsC (by simp; omega))
    have HA9 := Lib.hid (((HA5.out.toExt xa).chg hC6 (fun b hb h => by have := HFA.out b hb; rw [List.mem_singleton.1 h] at this; omega)).chg hsC (fun b hb h => by have := HFA.out b hb; rw [List.mem_singleton.1 h] at this; omega))
    have HO9 := Lib.hid (((HO5.out.toExt xa).chg hC6 (fun b hb h => by have := HFO.out b hb; rw [List.mem_singleton.1 h] at this; omega)).chg hsC (fun b hb h => by have := HFO.out b hb; rw [List.mem_singleton.1 h] at this; omega))
    have HC9 := Lib.hid (((HC5.out.trans0 xa).trans hC6 (fun x hx => .inl hx)).trans hsC (fun x hx => .inr (by rw [List.mem_singleton.1 hx]; omega)))
    have Hc9 := Lib.hid (hc6.chg hsC (by simpa using fun h => n3g h.symm) (by simp; omega))
    have HF9 := Lib.hid (show ∀ b ∈ FA ++ FO, W.heap.size ≤ b from fun b hb => (HF.out b hb).1)
    have HN9 := HN
    have HD9 : Hid (QaD (z, q.2.1, q.2.2)) := Lib.hid ⟨by dsimp only; omega, by dsimp only; omega, by dsimp only; omega, by dsimp only; omega, HAB.out, by dsimp only; omega, few_count HQ.out.v hzb⟩
    obtain ⟨l6, k60, k61, k62, f6⟩ := box3 B6
    clear hz hzb hsC hC6 hc6 xa B6
    go_upto_region 13 with fail
    refine wp_name ?_
    intro WX hWX
    rw [← hWX.out] at HB9 HR9 HA9 HO9 HC9 Hc9
    clear hWX l5 k50 k51 k52 f5 l6 k60 k61 k62 f6
    obtain ⟨lf1, kf10, kf11, kf12, ff1⟩ := box3 HB9.out
    obtain ⟨lf2, kf20, kf21, kf22, ff2⟩ := box3 HR9.out
    go_wp2_with fail
    refine bodyPost_ret (v := .agg #[.int .i64 z, .slice A2 q.2.1.length a2, .slice B2 q.2.2.length b2]) (by simp [results, Try.results145, go_sem, *]) rfl ?_
    show QaP w0 g w _ _
    have hC9 := ((((Chg.refl [w.heap.size] WX).setCell (p := ⟨w.heap.size, 0, none⟩) (.inl (by simp)) (.int .i64 z)).setCell (p := ⟨w.heap.size, 1, none⟩) (.inl (by simp)) (.slice A2 q.2.1.length a2)).setCell (p := ⟨w.heap.size, 2, none⟩) (.inl (by simp)) (.slice B2 q.2.2.length b2))
    exact ⟨_, _, _, (FA ++ FO), (z, q.2.1, q.2.2), rfl, OD.chg (sQ_mk HA9.out HO9.out) hC9 (fun b hb h => by have := HF9.out b hb; rw [List.mem_singleton.1 h] at this; omega), HN9.out, fun b hb => by have := HF9.out b hb; omega, HD9.out, Hc9.out.chg hC9 (by simp; omega) (by simp; omega), HC9.out.trans hC9 (fun x hx => .inr (by rw [List.mem_singleton.1 hx]; omega))⟩
  · have q0 : (x == 0) = false := by simp [e0]
    by_cases e1 : x = 1
    · have q1 : (x == 1) = true := by simp [e1]
      have q2 : (x == 2) = false := by simp [e1]
      have q3 : (x == 3) = false := by simp [e1]
      have q4 : (x == 4) = false := by simp [e1]
      clear e0 e1
      have nAg : Hid (∀ b ∈ FA, b ∉ [g]) := Lib.hid (fun b hb h => by have := HFA.out b hb; rw [List.mem_singleton.1 h] at this; omega)
      have n3A : Hid (b3 ∉ FA) := Lib.hid (fun h => by have := HFA.out b3 h; omega)
      have hNA := Lib.hid (List.nodup_append.1 HN.out).1
      go_upto_region 6 with fail
      go_region_law (first
        | (refine step_appB (E := sAt) (d := (s, [(0 : Int)])) (G := [w5.heap.size]) (cs := #[.string s, .slice (some ⟨w5.heap.size, 0, none⟩) 1 1]) (by rfl) _ _ _ (by rfl) tA (by rfl) (by rfl) (by (repeat (with_reducible (first | assumption | exact BoxAt.new _ _ _ | apply BoxAt.set2 | refine BoxAt.set2' ?_ (by omega) | apply BoxAt.setP0 | apply BoxAt.setP1 | refine BoxAt.setO ?_ (by omega) | refine BoxAt.alloc ?_ _ | refine BoxAt.drew ?_ | refine BoxAt.toExt ?_ (by assumption)))); done) (sAt_mk (HI.out.toExt (by refine x'z ?_; repeat (with_reducible (first | apply x'a | apply x'b | exact x'c (by assumption) | refine x'd ?_ (by assumption) | apply x'e | apply x'f | apply x'g | apply x'h | apply x'i | apply x'j | apply x'k | apply x'l | apply x'm | assumption | (refine x'n ?_; omega) | omega))))) (by rfl) (by simp [Value.oneCell']) (HA6.out.toExt (by refine x'z ?_; repeat (with_reducible (first | apply x'a | apply x'b | exact x'c (by assumption) | refine x'd ?_ (by assumption) | apply x'e | apply x'f | apply x'g | apply x'h | apply x'i | apply x'j | apply x'k | apply x'l | apply x'm | assumption | (refine x'n ?_; omega) | omega)))) (nodup_more hNA.out (by simp) HA5.out.lt (by simp)) (by omega) (by omega) ?_; intro v7 w7 F7 hS7 hC7 hN7 hF7; obtain ⟨A7, c7, rfl, _, _⟩ := hS7.form; have B7 := (HB6.out.toExt (by refine x'z ?_; repeat (with_reducible (first | apply x'a | apply x'b | exact x'c (by assumption) | refine x'd ?_ (by assumption) | apply x'e | apply x'f | apply x'g | apply x'h | apply x'i | apply x'j | apply x'k | apply x'l | apply x'm | assumption | (refine x'n ?_; omega) | omega)))).chg hC7 n3A.out; obtain ⟨l7, k70, k71, k72, f7⟩ := box3 B7)
        | (refine step_appB (E := sAt) (d := (s, [(0 : Int)])) (G := [w5.heap.size + 1]) (cs := #[.string s, .slice (some ⟨w5.heap.size + 1, 0, none⟩) 1 1]) (by rfl) _ _ _ (by rfl) tA (by rfl) (by rfl) (by (repeat (with_reducible (first | assumption | exact BoxAt.new _ _ _ | apply BoxAt.set2 | refine BoxAt.set2' ?_ (by omega) | apply BoxAt.setP0 | apply BoxAt.setP1 | refine BoxAt.setO ?_ (by omega) | refine BoxAt.alloc ?_ _ | refine BoxAt.drew ?_ | refine BoxAt.toExt ?_ (by assumption)))); done) (sAt_mk (HI.out.toExt (by refine x'z ?_; repeat (with_reducible (first | apply x'a | apply x'b | exact x'c (by assumption) | refine x'd ?_ (by assumption) | apply x'e | apply x'f | apply x'g | apply x'h | apply x'i | apply x'j | apply x'k | apply x'l | apply x'm | assumption | (refine x'n ?_; omega) | omega))))) (by rfl) (by simp [Value.oneCell']) (HA6.out.toExt (by refine x'z ?_; repeat (with_reducible (first | apply x'a | apply x'b | exact x'c (by assumption) | refine x'd ?_ (by assumption) | apply x'e | apply x'f | apply x'g | apply x'h | apply x'i | apply x'j | apply x'k | apply x'l | apply x'm | assumption | (refine x'n ?_; omega) | omega)))) (nodup_more hNA.out (by simp) HA5.out.lt (by simp)) (by omega) (by omega) ?_; intro v7 w7 F7 hS7 hC7 hN7 hF7; obtain ⟨A7, c7, rfl, _, _⟩ := hS7.form; have B7 := (HB6.out.toExt (by refine x'z ?_; repeat (with_reducible (first | apply x'a | apply x'b | exact x'c (by assumption) | refine x'd ?_ (by assumption) | apply x'e | apply x'f | apply x'g | apply x'h | apply x'i | apply x'j | apply x'k | apply x'l | apply x'm | assumption | (refine x'n ?_; omega) | omega)))).chg hC7 n3A.out; obtain ⟨l7, k70, k71, k72, f7⟩ := box3 B7)
        | (refine step_appB (E := sAt) (d := (s, [(0 : Int)])) (G := [w6.heap.size]) (cs := #[.string s, .slice (some ⟨w6.heap.size, 0, none⟩) 1 1]) (by rfl) _ _ _ (by rfl) tA (by rfl) (by rfl) (by exact box_second) (sAt_mk ((SV.lit (te := 3) (E := sI) (u := .int .i64 0) (d := (0 : Int)) w6 (fun _ => ⟨rfl, rfl⟩)).toExt (by refine x'z ?_; repeat (with_reducible (first | apply x'a | apply x'b | exact x'c (by assumption) | refine x'd ?_ (by assumption) | apply x'e | apply x'f | apply x'g | apply x'h | apply x'i | apply x'j | apply x'k | apply x'l | apply x'm | assumption | (refine x'n ?_; omega) | omega))))) (by rfl) (by simp [Value.oneCell']) (HA6.out.toExt (by refine x'z ?_; repeat (with_reducible (first | apply x'a | apply x'b | exact x'c (by assumption) | refine x'd ?_ (by assumption) | apply x'e | apply x'f | apply x'g | apply x'h | apply x'i | apply x'j | apply x'k | apply x'l | apply x'm | assumption | (refine x'n ?_; omega) | omega)))) HNc.out (by omega) (by omega) ?_; intro v7 w7 F7 hS7 hC7 hN7 hF7; obtain ⟨A7, c7, rfl, _, _⟩ := hS7.form; have B7 := (HB6.out.toExt (by refine x'z ?_; repeat (with_reducible (first | apply x'a | apply x'b | exact x'c (by assumption) | refine x'd ?_ (by assumption) | apply x'e | apply x'f | apply x'g | apply x'h | apply x'i | apply x'j | apply x'k | apply x'l | apply x'm | assumption | (refine x'n ?_; omega) | omega)))).chg hC7 n3A.out; obtain ⟨l7, k70, k71, k72, f7⟩ := box3 B7)
        | (rw [if_pos (by simp [Region.wanted])]; go_wp2_with (go_at_call 138; refine (l1Pick_any (m := 3) (cs := #[.string ⟨#[]⟩, .string ⟨#[119]⟩, .string ⟨#[114]⟩]) (Hc5.out.toExt (by refine x'z ?_; repeat (with_reducible (first | apply x'a | apply x'b | exact x'c (by assumption) | refine x'd ?_ (by assumption) | apply x'e | apply x'f | apply x'g | apply x'h | apply x'i | apply x'j | apply x'k | apply x'l | apply x'm | assumption | (refine x'n ?_; omega) | omega)))) (by omega) (by omega) (by first | exact BoxAt.new _ _ _ | exact (BoxAt.new _ _ _).drew | exact box_second | exact (BoxAt.new _ _ _).alloc _) (by intro j hj; rcases j with _ | _ | _ | j <;> first | exact ⟨_, rfl⟩ | omega) (by simp; omega)).mono ?_; rintro e w6 ⟨s, j, rfl, hj, hz, hc6, hC6⟩; (first | (have HI := Lib.hid (((SV.lit (te := 3) (E := sI) (u := .int .i64 0) (d := (0 : Int)) w5 (fun _ => ⟨rfl, rfl⟩)).toExt (trans_ext (alloc_ext _ _) (drew_ext _))).chg hC6 (by simp; omega))) | (have HI := Lib.hid (((lit_second (te := 3) (E := sI) (u := .int .i64 0) (d := (0 : Int)) (w := w5) (cs := #[.string ⟨#[]⟩, .string ⟨#[119]⟩, .string ⟨#[114]⟩]) (t := 9) (fun _ => ⟨rfl, rfl⟩)).toExt (drew_ext _)).chg hC6 (by simp; omega))) | skip); have HA6 := Lib.hid ((HA5.out.toExt (by refine x'z ?_; repeat (with_reducible (first | apply x'a | apply x'b | exact x'c (by assumption) | refine x'd ?_ (by assumption) | apply x'e | apply x'f | apply x'g | apply x'h | apply x'i | apply x'j | apply x'k | apply x'l | apply x'm | assumption | (refine x'n ?_; omega) | omega)))).chg hC6 nAg.out); have HNc := Lib.hid (show (FA ++ [w6.heap.size]).Nodup from nodup_more hNA.out (by simp) HA6.out.lt (by simp)); have HO6 := Lib.hid ((HO5.out.toExt (by refine x'z ?_; repeat (with_reducible (first | apply x'a | apply x'b | exact x'c (by assumption) | refine x'd ?_ (by assumption) | apply x'e | apply x'f | apply x'g | apply x'h | apply x'i | apply x'j | apply x'k | apply x'l | apply x'm | assumption | (refine x'n ?_; omega) | omega)))).chg hC6 (fun b hb h => by have := HFO.out b hb; rw [List.mem_singleton.1 h] at this; omega)); have HB6 := Lib.hid ((HB5.out.toExt (by refine x'z ?_; repeat (with_reducible (first | apply x'a | apply x'b | exact x'c (by assumption) | refine x'd ?_ (by assumption) | apply x'e | apply x'f | apply x'g | apply x'h | apply x'i | apply x'j | apply x'k | apply x'l | apply x'm | assumption | (refine x'n ?_; omega) | omega)))).chg hC6 (by simpa using n3g)); have HR6 := Lib.hid ((HR5.out.toExt (by refine x'z ?_; repeat (with_reducible (first | apply x'a | apply x'b | exact x'c (by assumption) | refine x'd ?_ (by assumption) | apply x'e | apply x'f | apply x'g | apply x'h | apply x'i | apply x'j | apply x'k | apply x'l | apply x'm | assumption | (refine x'n ?_; omega) | omega)))).chg hC6 (by simp; omega)); have HC6 := Lib.hid (show Chg [g] w w6 from (HC5.out.trans0 (by refine x'z ?_; repeat (with_reducible (first | apply x'a | apply x'b | exact x'c (by assumption) | refine x'd ?_ (by assumption) | apply x'e | apply x'f | apply x'g | apply x'h | apply x'i | apply x'j | apply x'k | apply x'l | apply x'm | assumption | (refine x'n ?_; omega) | omega)))).trans hC6 (fun x hx => .inl hx)); have Hc6 := Lib.hid hc6; have hz6 := hC6.size; have HZ6 := Lib.hid hz; obtain ⟨l6, k60, k61, k62, f6⟩ := box3 HB6.out; clear hc6 hC6 hz)))
      all_goals
        have hss : s.size ≤ 4 := by
          have h := HZ6.out
          rcases j with _ | _ | _ | j
          · injection h with h; injection h with h; rw [← h]; decide
          · injection h with h; injection h with h; rw [← h]; decide
          · injection h with h; injection h with h; rw [← h]; decide
          · omega
        have hl7 : (q.2.1 ++ [(s, [(0 : Int)])]).length = q.2.1.length + 1 := by simp
        (try rw [hl7] at hS7)
        have hz60 : w5.heap.size ≤ w6.heap.size := by first | exact hz6 | (simp at hz6; exact hz6) | (simp at hz6; omega)
        have hF7n : ∀ b ∈ F7, W.heap.size ≤ b ∧ (b ∈ FA ∨ w5.heap.size ≤ b) := fun b hb => by
          rcases hF7 b hb with h | h | h
          · exact ⟨(HFA.out b h).1, .inl h⟩
          · rw [List.mem_singleton.1 h]; exact ⟨by omega, .inr (by omega)⟩
          · simp at h; exact ⟨by omega, .inr (by omega)⟩
        have hsC := (Chg.refl [b3] w7).setCell (p := ⟨b3, 1, none⟩) (.inl (by simp)) (.slice A7 (q.2.1.length + 1) c7)
        have h3F7 : b3 ∉ F7 := fun h => by
          rcases (hF7n b3 h).2 with h | h
          · exact n3A.out h
          · omega
        have HB9 := Lib.hid (B7.set31 (u := .slice A7 (q.2.1.length + 1) c7))
        have HR9 := Lib.hid (((HR6.out.toExt (by refine x'z ?_; repeat (with_reducible (first | apply x'a | apply x'b | exact x'c (by assumption) | refine x'd ?_ (by assumption) | apply x'e | apply x'f | apply x'g | apply x'h | apply x'i | apply x'j | apply x'k | apply x'l | apply x'm | assumption | (refine x'n ?_; omega) | omega)))).chg hC7 (fun h => by have := HFA.out _ h; omega)).chg hsC (by simp; omega))
        have HA9 := Lib.hid (hS7.chg hsC (fun b hb h => by rw [List.mem_singleton.1 h] at hb; exact h3F7 hb))
        have HO9 := Lib.hid (((HO6.out.toExt (by refine x'z ?_; repeat (with_reducible (first | apply x'a | apply x'b | exact x'c (by assumption) | refine x'd ?_ (by assumption) | apply x'e | apply x'f | apply x'g | apply x'h | apply x'i | apply x'j | apply x'k | apply x'l | apply x'm | assumption | (refine x'n ?_; omega) | omega)))).chg hC7 (fun b hb h => (List.nodup_append.1 HN.out).2.2 b h b hb rfl)).chg hsC (fun b hb h => by have := HFO.out b hb; rw [List.mem_singleton.1 h] at this; omega))
        have HC9 := Lib.hid (((HC6.out.trans0 (by refine x'z ?_; repeat (with_reducible (first | apply x'a | apply x'b | exact x'c (by assumption) | refine x'd ?_ (by assumption) | apply x'e | apply x'f | apply x'g | apply x'h | apply x'i | apply x'j | apply x'k | apply x'l | apply x'm | assumption | (refine x'n ?_; omega) | omega)))).trans hC7 (fun x hx => .inr (by have := HFA.out x hx; omega))).trans hsC (fun x hx => .inr (by rw [List.mem_singleton.1 hx]; omega)))
        have Hc9 := Lib.hid (((Hc6.out.toExt (by refine x'z ?_; repeat (with_reducible (first | apply x'a | apply x'b | exact x'c (by assumption) | refine x'd ?_ (by assumption) | apply x'e | apply x'f | apply x'g | apply x'h | apply x'i | apply x'j | apply x'k | apply x'l | apply x'm | assumption | (refine x'n ?_; omega) | omega)))).chg hC7 (fun h => nAg.out g h (by simp)) (fun b hb => by have := HFA.out b hb; omega)).chg hsC (by simpa using fun h => n3g h.symm) (by simp; omega))
        have HF9 := Lib.hid (show ∀ b ∈ F7 ++ FO, W.heap.size ≤ b from fun b hb => by
          rcases List.mem_append.1 hb with h | h
          · exact (hF7n b h).1
          · exact (HFO.out b h).1)
        have HN9 : Hid (F7 ++ FO).Nodup := Lib.hid (List.nodup_append.2 ⟨hN7, (List.nodup_append.1 HN.out).2.1, fun a ha b hb e => by
          subst e
          rcases (hF7n a ha).2 with h | h
          · exact (List.nodup_append.1 HN.out).2.2 a h a hb rfl
          · have := HFO.out a hb; omega⟩)
        have HD9 : Hid (QaD (q.1, q.2.1 ++ [(s, [(0 : Int)])], q.2.2)) := Lib.hid ⟨by dsimp only; omega, by dsimp only; omega, by dsimp only; rw [hl7]; omega, by dsimp only; rw [hl7]; omega, fun y hy => by
          rcases List.mem_append.1 hy with h | h
          · exact HAB.out y h
          · rw [List.mem_singleton.1 h]; exact ⟨hss, by simp⟩, by dsimp only; omega, fun _ => few_more (ats := q.2.1) HQ.out.f _⟩
        clear hF7n hsC h3F7 hS7 hC7 hN7 hF7 B7
        go_upto_region 13 with fail
        refine wp_name ?_
        intro WX hWX
        rw [← hWX.out] at HB9 HR9 HA9 HO9 HC9 Hc9
        clear hWX l5 k50 k51 k52 f5 l6 k60 k61 k62 f6 l7 k70 k71 k72 f7
        obtain ⟨lf1, kf10, kf11, kf12, ff1⟩ := box3 HB9.out
        obtain ⟨lf2, kf20, kf21, kf22, ff2⟩ := box3 HR9.out
        go_wp2_with fail
        refine bodyPost_ret (v := .agg #[.int .i64 q.1, .slice A7 (q.2.1.length + 1) c7, .slice B2 q.2.2.length b2]) (by simp [results, Try.results145, go_sem, *]) rfl ?_
        show QaP w0 g w _ _
        have hC9 := ((((Chg.refl [w.heap.size] WX).setCell (p := ⟨w.heap.size, 0, none⟩) (.inl (by simp)) (.int .i64 q.1)).setCell (p := ⟨w.heap.size, 1, none⟩) (.inl (by simp)) (.slice A7 (q.2.1.length + 1) c7)).setCell (p := ⟨w.heap.size, 2, none⟩) (.inl (by simp)) (.slice B2 q.2.2.length b2))
        exact ⟨_, _, _, (F7 ++ FO), (q.1, q.2.1 ++ [(s, [(0 : Int)])], q.2.2), rfl, OD.chg (sQ_mk HA9.out HO9.out) hC9 (fun b hb h => by have := HF9.out b hb; rw [List.mem_singleton.1 h] at this; omega), HN9.out, fun b hb => by have := HF9.out b hb; omega, HD9.out, Hc9.out.chg hC9 (by simp; omega) (by simp; omega), HC9.out.trans hC9 (fun x hx => .inr (by rw [List.mem_singleton.1 hx]; omega))⟩
    · have q1 : (x == 1) = false := by simp [e1]
      by_cases e2 : x = 2
      · have q2 : (x == 2) = true := by simp [e2]
        have q3 : (x == 3) = false := by simp [e2]
        have q4 : (x == 4) = false := by simp [e2]
        clear e0 e1 e2
        have nOg : Hid (∀ b ∈ FO, b ∉ [g]) := Lib.hid (fun b hb h => by have := HFO.out b hb; rw [List.mem_singleton.1 h] at this; omega)
        have n3O : Hid (b3 ∉ FO) := Lib.hid (fun h => by have := HFO.out b3 h; omega)
        go_upto_region 8 with fail
        go_region_law (first
          | (refine step_app1 (E := sI) (d := y - 1) (by rfl) _ _ _ (by rfl) tI (by rfl) (by rfl) (by rfl) (by rfl) (fun _ => ⟨rfl, rfl⟩) (by rfl) (by simp [Value.oneCell']) HO6.out (by omega) (by omega) ?_; intro v7 w7 F7 hS7 hC7 hF7; obtain ⟨A7, c7, rfl, _, _⟩ := hS7.form; have B7 := HB6.out.chg hC7 n3O.out; obtain ⟨l7, k70, k71, k72, f7⟩ := box3 B7)
          | (rw [if_pos (by simp [Region.wanted])]; go_wp2_with (go_at_call 136; refine (l1Below_any (Hc5.out.toExt (by refine x'z ?_; repeat (with_reducible (first | apply x'a | apply x'b | exact x'c (by assumption) | refine x'd ?_ (by assumption) | apply x'e | apply x'f | apply x'g | apply x'h | apply x'i | apply x'j | apply x'k | apply x'l | apply x'm | assumption | (refine x'n ?_; omega) | omega)))) (by omega) (by omega)).mono ?_; rintro e w6 ⟨y, rfl, hya, hyb, hc6, hC6⟩; have iy : IntKind.i64.wrap (y - 1) = y - 1 := (by rw [IntKind.wrap_i64]; omega); have HO6 := Lib.hid ((HO5.out.toExt (by refine x'z ?_; repeat (with_reducible (first | apply x'a | apply x'b | exact x'c (by assumption) | refine x'd ?_ (by assumption) | apply x'e | apply x'f | apply x'g | apply x'h | apply x'i | apply x'j | apply x'k | apply x'l | apply x'm | assumption | (refine x'n ?_; omega) | omega)))).chg hC6 nOg.out); have HA6 := Lib.hid ((HA5.out.toExt (by refine x'z ?_; repeat (with_reducible (first | apply x'a | apply x'b | exact x'c (by assumption) | refine x'd ?_ (by assumption) | apply x'e | apply x'f | apply x'g | apply x'h | apply x'i | apply x'j | apply x'k | apply x'l | apply x'm | assumption | (refine x'n ?_; omega) | omega)))).chg hC6 (fun b hb h => by have := HFA.out b hb; rw [List.mem_singleton.1 h] at this; omega)); have HB6 := Lib.hid ((HB5.out.toExt (by refine x'z ?_; repeat (with_reducible (first | apply x'a | apply x'b | exact x'c (by assumption) | refine x'd ?_ (by assumption) | apply x'e | apply x'f | apply x'g | apply x'h | apply x'i | apply x'j | apply x'k | apply x'l | apply x'm | assumption | (refine x'n ?_; omega) | omega)))).chg hC6 (by simpa using n3g)); have HR6 := Lib.hid ((HR5.out.toExt (by refine x'z ?_; repeat (with_reducible (first | apply x'a | apply x'b | exact x'c (by assumption) | refine x'd ?_ (by assumption) | apply x'e | apply x'f | apply x'g | apply x'h | apply x'i | apply x'j | apply x'k | apply x'l | apply x'm | assumption | (refine x'n ?_; omega) | omega)))).chg hC6 (by simp; omega)); have HC6 := Lib.hid (show Chg [g] w w6 from (HC5.out.trans0 (by refine x'z ?_; repeat (with_reducible (first | apply x'a | apply x'b | exact x'c (by assumption) | refine x'd ?_ (by assumption) | apply x'e | apply x'f | apply x'g | apply x'h | apply x'i | apply x'j | apply x'k | apply x'l | apply x'm | assumption | (refine x'n ?_; omega) | omega)))).trans hC6 (fun x hx => .inl hx)); have Hc6 := Lib.hid hc6; have hz6 := hC6.size; obtain ⟨l6, k60, k61, k62, f6⟩ := box3 HB6.out; clear hc6 hC6)))
        all_goals
          have hl7 : (q.2.2 ++ [y - 1]).length = q.2.2.length + 1 := by simp
          (try rw [hl7] at hS7)
          have hz60 : w5.heap.size ≤ w6.heap.size := hz6
          have hF7n : ∀ b ∈ F7, W.heap.size ≤ b ∧ (b ∈ FO ∨ w6.heap.size ≤ b) := fun b hb => by
            rcases hF7 b hb with h | h
            · exact ⟨(HFO.out b h).1, .inl h⟩
            · exact ⟨by omega, .inr h⟩
          have hsC := (Chg.refl [b3] w7).setCell (p := ⟨b3, 2, none⟩) (.inl (by simp)) (.slice A7 (q.2.2.length + 1) c7)
          have h3F7 : b3 ∉ F7 := fun h => by
            rcases (hF7n b3 h).2 with h | h
            · exact n3O.out h
            · omega
          have HB9 := Lib.hid (B7.set32 (u := .slice A7 (q.2.2.length + 1) c7))
          have HR9 := Lib.hid ((HR6.out.chg hC7 (fun h => by have := HFO.out _ h; omega)).chg hsC (by simp; omega))
          have HO9 := Lib.hid (hS7.chg hsC (fun b hb h => by rw [List.mem_singleton.1 h] at hb; exact h3F7 hb))
          have HA9 := Lib.hid ((HA6.out.chg hC7 (fun b hb h => (List.nodup_append.1 HN.out).2.2 b hb b h rfl)).chg hsC (fun b hb h => by have := HFA.out b hb; rw [List.mem_singleton.1 h] at this; omega))
          have HC9 := Lib.hid ((HC6.out.trans hC7 (fun x hx => .inr (by have := HFO.out x hx; omega))).trans hsC (fun x hx => .inr (by rw [List.mem_singleton.1 hx]; omega)))
          have Hc9 := Lib.hid ((Hc6.out.chg hC7 (fun h => nOg.out g h (by simp)) (fun b hb => by have := HFO.out b hb; omega)).chg hsC (by simpa using fun h => n3g h.symm) (by simp; omega))
          have HF9 := Lib.hid (show ∀ b ∈ FA ++ F7, W.heap.size ≤ b from fun b hb => by
            rcases List.mem_append.1 hb with h | h
            · exact (HFA.out b h).1
            · exact (hF7n b h).1)
          have HN9 : Hid (FA ++ F7).Nodup := Lib.hid (List.nodup_append.2 ⟨(List.nodup_append.1 HN.out).1, hS7.nodup, fun a ha b hb e => by
            subst e
            rcases (hF7n a hb).2 with h | h
            · exact (List.nodup_append.1 HN.out).2.2 a ha a h rfl
            · have := HFA.out a ha; omega⟩)
          have HD9 : Hid (QaD (q.1, q.2.1, q.2.2 ++ [y - 1])) := Lib.hid ⟨by dsimp only; omega, by dsimp only; omega, by dsimp only; omega, by dsimp only; omega, HAB.out, by dsimp only; rw [hl7]; omega, fun _ => few_out (out := q.2.2) HQ.out.f _⟩
          clear hF7n hsC h3F7 hS7 hC7 hF7 B7
          go_upto_region 13 with fail
          refine wp_name ?_
          intro WX hWX
          rw [← hWX.out] at HB9 HR9 HA9 HO9 HC9 Hc9
          clear hWX l5 k50 k51 k52 f5 l6 k60 k61 k62 f6 l7 k70 k71 k72 f7
          obtain ⟨lf1, kf10, kf11, kf12, ff1⟩ := box3 HB9.out
          obtain ⟨lf2, kf20, kf21, kf22, ff2⟩ := box3 HR9.out
          go_wp2_with fail
          refine bodyPost_ret (v := .agg #[.int .i64 q.1, .slice A2 q.2.1.length a2, .slice A7 (q.2.2.length + 1) c7]) (by simp [results, Try.results145, go_sem, *]) rfl ?_
          show QaP w0 g w _ _
          have hC9 := ((((Chg.refl [w.heap.size] WX).setCell (p := ⟨w.heap.size, 0, none⟩) (.inl (by simp)) (.int .i64 q.1)).setCell (p := ⟨w.heap.size, 1, none⟩) (.inl (by simp)) (.slice A2 q.2.1.length a2)).setCell (p := ⟨w.heap.size, 2, none⟩) (.inl (by simp)) (.slice A7 (q.2.2.length + 1) c7))
          exact ⟨_, _, _, (FA ++ F7), (q.1, q.2.1, q.2.2 ++ [y - 1]), rfl, OD.chg (sQ_mk HA9.out HO9.out) hC9 (fun b hb h => by have := HF9.out b hb; rw [List.mem_singleton.1 h] at this; omega), HN9.out, fun b hb => by have := HF9.out b hb; omega, HD9.out, Hc9.out.chg hC9 (by simp; omega) (by simp; omega), HC9.out.trans hC9 (fun x hx => .inr (by rw [List.mem_singleton.1 hx]; omega))⟩
      · have q2 : (x == 2) = false := by simp [e2]
        by_cases e3 : x = 3
        · have q3 : (x == 3) = true := by simp [e3]
          have q4 : (x == 4) = false := by simp [e3]
          clear e0 e1 e2 e3
          obtain ⟨gA, capA, eA, hgA, hcapA, _⟩ := HA5.out.block (by intro e; rw [e] at hn1; simp at hn1)
          injection eA with eA _ eA2
          subst eA eA2
          have hgW := HFA.out gA hgA
          obtain ⟨⟨u1, i3⟩, i4, i5⟩ := HA5.out.cell rfl (j := 1) (by omega)
          have n3A : b3 ≠ gA := by omega
          have nAg : gA ≠ g := by omega
          have hsC := (Chg.refl [gA] w5).setCell (p := ⟨gA, 1, none⟩) (.inl (by simp)) (.slice none 0 0)
          have hNA := (List.nodup_append.1 HN.out).1
          obtain ⟨F9, hS9, hN9, hF9⟩ := HA5.out.setG (G := []) (by simpa using hNA) (k := 0) (by omega) ⟨_, _, rfl⟩ (j := 1) (u := .slice none 0 0) (d' := (q.2.1[0].1, [])) (by omega) (fun c Fk hcl hE _ => by
            obtain ⟨A', c', hc'⟩ : ∃ A' c', c = [.string q.2.1[0].1, .slice A' q.2.1[0].2.length c'] := by
              obtain ⟨c0, c1, F0, F1, e0, h0, ⟨h1, h2⟩, ⟨u1, rfl, h4⟩, h5⟩ := hE
              subst h1
              obtain ⟨A', c', rfl, _⟩ := h4.form
              exact ⟨A', c', e0⟩
            subst hc'
            exact sAt_mk SV.nil)
          rw [show 0 * 2 + 1 = 1 by omega] at hS9
          have HB9 := Lib.hid (HB5.out.chg hsC (by simpa using n3A))
          have HR9 := Lib.hid (HR5.out.chg hsC (by simp; omega))
          have HA9 := Lib.hid hS9
          have HO9 := Lib.hid (HO5.out.chg hsC (fun b hb h => by rw [List.mem_singleton.1 h] at hb; exact (List.nodup_append.1 HN.out).2.2 gA hgA gA hb rfl))
          have HC9 := Lib.hid (HC5.out.trans hsC (fun x hx => .inr (by rw [List.mem_singleton.1 hx]; omega)))
          have Hc9 := Lib.hid (Hc5.out.chg hsC (by simpa using fun h => nAg h.symm) (by simp; omega))
          have hF9' : ∀ b ∈ F9, b ∈ FA := fun b hb => by
            rcases hF9 b hb with h | h
            · exact h
            · simp at h
          have HF9 := Lib.hid (show ∀ b ∈ F9 ++ FO, W.heap.size ≤ b from fun b hb => by
            rcases List.mem_append.1 hb with h | h
            · exact (HFA.out b (hF9' b h)).1
            · exact (HFO.out b h).1)
          have HN9 : Hid (F9 ++ FO).Nodup := Lib.hid (List.nodup_append.2 ⟨hN9, (List.nodup_append.1 HN.out).2.1, fun a ha b hb e => (List.nodup_append.1 HN.out).2.2 a (hF9' a ha) b hb e⟩)
          have HD9 : Hid (QaD (q.1, q.2.1.set 0 (q.2.1[0].1, []), q.2.2)) := Lib.hid ⟨by dsimp only; omega, by dsimp only; omega, by dsimp only; rw [List.length_set]; omega, by dsimp only; rw [List.length_set]; omega, fun y hy => by
            rcases List.mem_or_eq_of_mem_set hy with h | h
            · exact HAB.out y h
            · rw [h]; exact ⟨(HAB.out _ (List.getElem_mem (by omega))).1, by simp⟩, by dsimp only; omega, few_nil (by omega) _⟩
          have HLA := Lib.hid (show q.2.1.length = (q.2.1.set 0 (q.2.1[0].1, [])).length by rw [List.length_set])
          clear hS9 hN9 hF9 hF9' hsC hNA
          go_upto_region 13 with fail
          refine wp_name ?_
          intro WX hWX
          rw [← hWX.out] at HB9 HR9 HA9 HO9 HC9 Hc9
          clear hWX l5 k50 k51 k52 f5 i3 i4 i5
          obtain ⟨lf1, kf10, kf11, kf12, ff1⟩ := box3 HB9.out
          obtain ⟨lf2, kf20, kf21, kf22, ff2⟩ := box3 HR9.out
          go_wp2_with fail
          refine bodyPost_ret (v := .agg #[.int .i64 q.1, .slice (some ⟨gA, 0, none⟩) q.2.1.length a2, .slice B2 q.2.2.length b2]) (by simp [results, Try.results145, go_sem, *]) rfl ?_
          show QaP w0 g w _ _
          have hC9 := ((((Chg.refl [w.heap.size] WX).setCell (p := ⟨w.heap.size, 0, none⟩) (.inl (by simp)) (.int .i64 q.1)).setCell (p := ⟨w.heap.size, 1, none⟩) (.inl (by simp)) (.slice (some ⟨gA, 0, none⟩) q.2.1.length a2)).setCell (p := ⟨w.heap.size, 2, none⟩) (.inl (by simp)) (.slice B2 q.2.2.length b2))
          exact ⟨_, _, _, (F9 ++ FO), (q.1, q.2.1.set 0 (q.2.1[0].1, []), q.2.2), rfl, OD.chg (sQ_mk HA9.out HO9.out) hC9 (fun b hb h => by have := HF9.out b hb; rw [List.mem_singleton.1 h] at this; omega), HN9.out, fun b hb => by have := HF9.out b hb; omega, HD9.out, Hc9.out.chg hC9 (by simp; omega) (by simp; omega), HC9.out.trans hC9 (fun x hx => .inr (by rw [List.mem_singleton.1 hx]; omega))⟩
        · have q3 : (x == 3) = false := by simp [e3]
          by_cases e4 : x = 4
          · have q4 : (x == 4) = true := by simp [e4]
            clear e0 e1 e2 e3 e4
            have hNA := Lib.hid (List.nodup_append.1 HN.out).1
            have hvl : 1 ≤ (q.2.1[0]).2.length := ((atomB_in (vq_atom (n := q.1) (ats := q.2.1) (out := q.2.2) HQ.out.v _ (List.getElem_mem (by omega)))).1).1
            obtain ⟨gA, capA, c, Fk, eA, hgAl, hgA, _, hFk, _, _, hcells, _, hE, _, _⟩ := HA5.out.at hNA.out (k := 0) (by omega)
            injection eA with eA _ eA2
            subst eA eA2
            obtain ⟨c0, c1, F0, F1, e0, h0, ⟨h1, h2⟩, ⟨u1, rfl, h4⟩, h5⟩ := hE
            subst h1 h2 e0
            have hF1 : ∀ b ∈ F1, b ∈ FA := fun b hb => hFk b (by rw [h5]; simpa using hb)
            obtain ⟨g1, cap1, rfl, hg1, _, _⟩ := h4.block (by intro e; rw [e] at hvl; simp at hvl)
            have i1 := hcells 1 (by simp)
            simp only [Nat.zero_mul, Nat.zero_add, List.cons_append, List.nil_append, List.getElem_cons_succ, List.getElem_cons_zero] at i1
            have hgAW := HFA.out gA hgA
            have hg1W := HFA.out g1 (hF1 g1 hg1)
            have nAg : gA ≠ g := by omega
            have n1g : g1 ≠ g := by omega
            have n3A : b3 ≠ gA := by omega
            have n31 : b3 ≠ g1 := by omega
            have HI := Lib.hid h4
            have HF1 := Lib.hid hF1
            obtain ⟨vs, hvs⟩ : ∃ l, (q.2.1[0]).2 = l := ⟨_, rfl⟩
            have HVS := Lib.hid hvs
            rw [hvs] at hvl HI i1
            clear hcells h4 hF1 h5 hFk hvs
            have i0 : (0 : Int) < (q.2.1.length : Int) := by omega
            have i00 : 0 < q.2.1.length := by omega
            have j0 : (0 : Int) < (vs.length : Int) := by omega
            have j00 : 0 < vs.length := by omega
            go_upto_region 12 with fail
            go_region_law (first
              | (rw [if_pos (by simp [Region.wanted])]; go_wp2_with (go_at_call 183; refine (l1PickInt_any (m := 2) (cs := #[.int .i64 (-1), .int .i64 5]) (Hc5.out.toExt (by refine x'z ?_; repeat (with_reducible (first | apply x'a | apply x'b | exact x'c (by assumption) | refine x'd ?_ (by assumption) | apply x'e | apply x'f | apply x'g | apply x'h | apply x'i | apply x'j | apply x'k | apply x'l | apply x'm | assumption | (refine x'n ?_; omega) | omega)))) (by omega) (by omega) (by first | exact BoxAt.new _ _ _ | exact (BoxAt.new _ _ _).drew) (by intro j hj; rcases j with _ | _ | j <;> first | exact ⟨_, rfl⟩ | omega) (by simp; omega)).mono ?_; rintro e w6 ⟨z, j, rfl, hj, hz, hc6, hC6⟩; have HA6 := Lib.hid ((HA5.out.toExt (by refine x'z ?_; repeat (with_reducible (first | apply x'a | apply x'b | exact x'c (by assumption) | refine x'd ?_ (by assumption) | apply x'e | apply x'f | apply x'g | apply x'h | apply x'i | apply x'j | apply x'k | apply x'l | apply x'm | assumption | (refine x'n ?_; omega) | omega)))).chg hC6 (fun b hb h => by have := HFA.out b hb; rw [List.mem_singleton.1 h] at this; omega)); have HO6 := Lib.hid ((HO5.out.toExt (by refine x'z ?_; repeat (with_reducible (first | apply x'a | apply x'b | exact x'c (by assumption) | refine x'd ?_ (by assumption) | apply x'e | apply x'f | apply x'g | apply x'h | apply x'i | apply x'j | apply x'k | apply x'l | apply x'm | assumption | (refine x'n ?_; omega) | omega)))).chg hC6 (fun b hb h => by have := HFO.out b hb; rw [List.mem_singleton.1 h] at this; omega)); have hI6 := (HI.out.toExt (by refine x'z ?_; repeat (with_reducible (first | apply x'a | apply x'b | exact x'c (by assumption) | refine x'd ?_ (by assumption) | apply x'e | apply x'f | apply x'g | apply x'h | apply x'i | apply x'j | apply x'k | apply x'l | apply x'm | assumption | (refine x'n ?_; omega) | omega)))).chg hC6 (fun b hb h => by have := HFA.out b (HF1.out b hb); rw [List.mem_singleton.1 h] at this; omega); obtain ⟨⟨u6, i6⟩, i7, i8⟩ := hI6.cell rfl (j := 0) (by omega); have HB6 := Lib.hid ((HB5.out.toExt (by refine x'z ?_; repeat (with_reducible (first | apply x'a | apply x'b | exact x'c (by assumption) | refine x'd ?_ (by assumption) | apply x'e | apply x'f | apply x'g | apply x'h | apply x'i | apply x'j | apply x'k | apply x'l | apply x'm | assumption | (refine x'n ?_; omega) | omega)))).chg hC6 (by simpa using n3g)); have HR6 := Lib.hid ((HR5.out.toExt (by refine x'z ?_; repeat (with_reducible (first | apply x'a | apply x'b | exact x'c (by assumption) | refine x'd ?_ (by assumption) | apply x'e | apply x'f | apply x'g | apply x'h | apply x'i | apply x'j | apply x'k | apply x'l | apply x'm | assumption | (refine x'n ?_; omega) | omega)))).chg hC6 (by simp; omega)); have HC6 := Lib.hid (show Chg [g] w w6 from (HC5.out.trans0 (by refine x'z ?_; repeat (with_reducible (first | apply x'a | apply x'b | exact x'c (by assumption) | refine x'd ?_ (by assumption) | apply x'e | apply x'f | apply x'g | apply x'h | apply x'i | apply x'j | apply x'k | apply x'l | apply x'm | assumption | (refine x'n ?_; omega) | omega)))).trans hC6 (fun x hx => .inl hx)); have Hc6 := Lib.hid hc6; have hz6 := hC6.size; have HZ6 := Lib.hid hz; have e6 : w6.cell? ⟨gA, 1, none⟩ = some (.slice (some ⟨g1, 0, none⟩) vs.length cap1) := (by rw [hC6.cell (b := gA) (o := 1) (by simpa using nAg) (by simp; omega)]; go_simp); have l66 : gA < w6.heap.size := Nat.lt_of_lt_of_le (by simp; omega) hz6; obtain ⟨l6, k60, k61, k62, f6⟩ := box3 HB6.out; clear hc6 hC6 hz hI6)))
            all_goals
              have hzv : z = -1 ∨ z = 5 := by
                have h := HZ6.out
                rcases j with _ | _ | j
                · injection h with h; injection h with _ h; exact .inl h.symm
                · injection h with h; injection h with _ h; exact .inr h.symm
                · omega
              obtain ⟨gA', capA', c', Fk', eA', _, _, _, hFk', _, _, hcells', _, hE', hupd, _⟩ := HA6.out.at hNA.out (k := 0) (by omega)
              injection eA' with eA' _ eA2'
              injection eA' with eA'
              injection eA' with eA'
              subst eA' eA2'
              obtain ⟨c0', c1', F0', F1', e0', h0', ⟨h1', h2'⟩, ⟨u1', rfl, h4'⟩, h5'⟩ := hE'
              subst h1' h2' e0'
              have i1' := hcells' 1 (by simp)
              simp only [Nat.zero_mul, Nat.zero_add, List.cons_append, List.nil_append, List.getElem_cons_succ, List.getElem_cons_zero] at i1'
              rw [e6] at i1'
              injection i1' with i1'
              subst i1'
              rw [HVS.out] at h4'
              obtain ⟨hI3, hC3⟩ := h4'.set1 rfl (k := 0) (by omega) (u := .int .i64 z) (d := z) (fun _ => ⟨rfl, rfl⟩)
              have hg1F : g1 ∈ F1' := by
                rw [h4'.plainF]; exact mem_fpOf.2 rfl
              have hFk1 : ∀ x ∈ F1', x ∈ Fk' := fun x hx => by rw [h5']; simpa using hx
              have hg1A : g1 ∈ FA := hFk' g1 (hFk1 g1 hg1F)
              have hS9 := hupd _ (q.2.1[0].1, vs.set 0 z) (by
                have h := sAt_mk (s := q.2.1[0].1) hI3
                rw [h5']
                simpa using h) (hC3.mono (fun x hx => .inl (by rw [List.mem_singleton.1 hx]; exact hFk1 _ hg1F)))
              have HB9 := Lib.hid (HB6.out.chg hC3 (by simpa using n31))
              have HR9 := Lib.hid (HR6.out.chg hC3 (by simp; omega))
              have HA9 := Lib.hid hS9
              have HO9 := Lib.hid (HO6.out.chg hC3 (fun b hb h => by rw [List.mem_singleton.1 h] at hb; exact (List.nodup_append.1 HN.out).2.2 g1 hg1A g1 hb rfl))
              have HC9 := Lib.hid (HC6.out.trans hC3 (fun x hx => .inr (by rw [List.mem_singleton.1 hx]; omega)))
              have Hc9 := Lib.hid (Hc6.out.chg hC3 (by simpa using fun h => n1g h.symm) (by simp; omega))
              have HF9 := Lib.hid (show ∀ b ∈ FA ++ FO, W.heap.size ≤ b from fun b hb => (HF.out b hb).1)
              have HN9 := HN
              have hvs5 : vs.length ≤ 5 := by rw [← HVS.out]; exact (HAB.out _ (List.getElem_mem (by omega))).2
              have HD9 : Hid (QaD (q.1, q.2.1.set 0 (q.2.1[0].1, vs.set 0 z), q.2.2)) := Lib.hid ⟨by dsimp only; omega, by dsimp only; omega, by dsimp only; rw [List.length_set]; omega, by dsimp only; rw [List.length_set]; omega, fun y hy => by
                rcases List.mem_or_eq_of_mem_set hy with h | h
                · exact HAB.out y h
                · rw [h]; exact ⟨(HAB.out _ (List.getElem_mem (by omega))).1, by dsimp only; rw [List.length_set]; exact hvs5⟩, by dsimp only; omega, few_val (by omega) (mem_set_me (by omega) z) hzv⟩
              clear h4' hI3 hC3 hS9 hupd hcells' e6 hFk' h5'
              go_upto_region 13 with fail
              refine wp_name ?_
              intro WX hWX
              rw [← hWX.out] at HB9 HR9 HA9 HO9 HC9 Hc9
              clear hWX l5 k50 k51 k52 f5 l6 k60 k61 k62 f6 i6 i7 i8 i1
              obtain ⟨lf1, kf10, kf11, kf12, ff1⟩ := box3 HB9.out
              obtain ⟨lf2, kf20, kf21, kf22, ff2⟩ := box3 HR9.out
              go_wp2_with fail
              refine bodyPost_ret (v := .agg #[.int .i64 q.1, .slice (some ⟨gA, 0, none⟩) q.2.1.length a2, .slice B2 q.2.2.length b2]) (by simp [results, Try.results145, go_sem, *]) rfl ?_
              show QaP w0 g w _ _
              have hC9 := ((((Chg.refl [w.heap.size] WX).setCell (p := ⟨w.heap.size, 0, none⟩) (.inl (by simp)) (.int .i64 q.1)).setCell (p := ⟨w.heap.size, 1, none⟩) (.inl (by simp)) (.slice (some ⟨gA, 0, none⟩) q.2.1.length a2)).setCell (p := ⟨w.heap.size, 2, none⟩) (.inl (by simp)) (.slice B2 q.2.2.length b2))
              exact ⟨_, _, _, (FA ++ FO), (q.1, q.2.1.set 0 (q.2.1[0].1, vs.set 0 z), q.2.2), rfl, OD.chg (sQ_mk HA9.out HO9.out) hC9 (fun b hb h => by have := HF9.out b hb; rw [List.mem_singleton.1 h] at this; omega), HN9.out, fun b hb => by have := HF9.out b hb; omega, HD9.out, Hc9.out.chg hC9 (by simp; omega) (by simp; omega), HC9.out.trans hC9 (fun x hx => .inr (by rw [List.mem_singleton.1 hx]; omega))⟩
          · have q4 : (x == 4) = false := by simp [e4]
            clear e0 e1 e2 e3 e4
            have HB9 := HB5
            have HR9 := HR5
            have HA9 := HA5
            have HO9 := HO5
            have HC9 := HC5
            have Hc9 := Hc5
            have HF9 := Lib.hid (show ∀ b ∈ FA ++ FO, W.heap.size ≤ b from fun b hb => (HF.out b hb).1)
            have HN9 := HN
            have HD9 : Hid (QaD (q.1, q.2.1, q.2.2)) := Lib.hid HQ.out.q
            clear l5 k50 k51 k52 f5
            go_upto_region 13 with fail
            obtain ⟨lf1, kf10, kf11, kf12, ff1⟩ := box3 HB9.out
            obtain ⟨lf2, kf20, kf21, kf22, ff2⟩ := box3 HR9.out
            go_wp2_with fail
            refine bodyPost_ret (v := .agg #[.int .i64 q.1, .slice A2 q.2.1.length a2, .slice B2 q.2.2.length b2]) (by simp [results, Try.results145, go_sem, *]) rfl ?_
            show QaP w0 g w _ _
            have hC9 := ((((Chg.refl [w.heap.size] w5).setCell (p := ⟨w.heap.size, 0, none⟩) (.inl (by simp)) (.int .i64 q.1)).setCell (p := ⟨w.heap.size, 1, none⟩) (.inl (by simp)) (.slice A2 q.2.1.length a2)).setCell (p := ⟨w.heap.size, 2, none⟩) (.inl (by simp)) (.slice B2 q.2.2.length b2))
            exact ⟨_, _, _, (FA ++ FO), (q.1, q.2.1, q.2.2), rfl, OD.chg (sQ_mk HA9.out HO9.out) hC9 (fun b hb h => by have := HF9.out b hb; rw [List.mem_singleton.1 h] at this; omega), HN9.out, fun b hb => by have := HF9.out b hb; omega, HD9.out, Hc9.out.chg hC9 (by simp; omega) (by simp; omega), HC9.out.trans hC9 (fun x hx => .inr (by rw [List.mem_singleton.1 hx]; omega))⟩
end Go.Proofs.Ytfigcfajkilhiaa

/- The reference's draws of a database and a query. -/
namespace Go.Proofs.Ytfigcfajkilhiaa
open Go.RowKit
def BothP (w0 : World) (g : Nat) (w : World) (e : Ending) (w' : World) : Prop := ∃ A c d v0 v1 v2 q, e = .returned (.tuple #[.agg #[.slice A d.length c], .agg #[v0, v1, v2]]) ∧ (∀ GG w2, (∀ x ∈ GG, x < w.heap.size) → Chg GG w' w2 → RV 3 vTb w2 A d ∧ vQ w2 [v0, v1, v2] q) ∧ d.length ≤ c ∧ DrD d ∧ QaD q ∧ Cur w0 w' g ∧ Chg [g] w w'
theorem OD.pers {α : Type} {E : SE α} [SMono E] {V : VE α} {w : World} {c : List Value} {d : α} {F G : List Nat} (h : E w c d F) (hV : ∀ w c d F, E w c d F → V w c d) (hF : ∀ b ∈ F, b ∉ G) : ∀ w2, Chg G w w2 → V w2 c d := fun w2 hC => hV w2 _ _ _ (OD.chg h hC hF)
theorem SV.persN {α : Type} {te size n : Nat} {E : SE α} [SMono E] {V : VE α} {w : World} {A : Option Addr} {m c : Nat} {ds : List α} {F : List Nat} (h : SV te size E w (.slice A m c) ds F) (hV : ∀ w c d F, E w c d F → V w c d) (hF : ∀ b ∈ F, n ≤ b) : ∀ (GG : List Nat) w2, (∀ x ∈ GG, x < n) → Chg GG w w2 → RV size V w2 A ds := fun GG w2 hG hC => (h.chg hC fun b hb hx => by have := hF b hb; have := hG b hx; omega).toView (hV w2)
theorem pers_two {w WW : World} {A : Option Addr} {d : Dbd} {c : List Value} {q : Qd} {FQ : List Nat} {n : Nat} (hV : ∀ (GG : List Nat) w2, (∀ x ∈ GG, x < n) → Chg GG WW w2 → RV 3 vTb w2 A d) (hn : w.heap.size + 2 ≤ n) (hQ : sQ WW c q FQ) (hF : ∀ b ∈ FQ, w.heap.size + 1 < b) :
    ∀ (GG : List Nat) w2, (∀ x ∈ GG, x < w.heap.size) → Chg (w.heap.size :: (w.heap.size + 1) :: GG) WW w2 → RV 3 vTb w2 A d ∧ vQ w2 c q := fun GG w2 hG hC => by
  have hx : ∀ x ∈ w.heap.size :: (w.heap.size + 1) :: GG, x < w.heap.size + 2 := fun x hx => by
    rcases List.mem_cons.1 hx with h | h
    · omega
    · rcases List.mem_cons.1 h with h | h
      · omega
      · have := hG x h; omega
  exact ⟨hV _ w2 (fun x h => by have := hx x h; omega) hC, sQ_v _ _ _ (OD.chg hQ hC fun b hb h => by have := hx b h; have := hF b hb; omega)⟩
set_option maxRecDepth 100000 in
set_option maxHeartbeats 40000000 in
theorem l7Both_any {g : Nat} {w0 w : World} (hc : Cur w0 w g) : Calls Try.prog 154 #[.pointer (some ⟨g, 0, none⟩)] w (BothP w0 g w) := by
  have hgw := hc.lt
  have hw0w := size_of_ext hc.2.1
  have Hc0 := Lib.hid hc
  clear hc
  go_enter Try.func154, Try.ntmps154
  go_upto_region 1 with fail
  refine wp_name ?_
  intro W hW
  have xW : ∃ y, W = ext w y := by rw [hW.out]; exact (by refine x'z ?_; repeat (with_reducible (first | apply x'a | apply x'b | exact x'c (by assumption) | refine x'd ?_ (by assumption) | apply x'e | apply x'f | apply x'g | apply x'h | apply x'i | apply x'j | apply x'k | apply x'l | apply x'm | assumption | (refine x'n ?_; omega) | omega)))
  have BW0 : BoxAt W (w.heap.size) #[.slice none 0 0] := by rw [hW.out]; refine ⟨?_, fun j => ?_, fun j => ?_⟩ <;> go_simp
  obtain ⟨lW0, bW0, fW0⟩ := BW0
  have cW0_0 : W.cell? ⟨w.heap.size, 0, none⟩ = some (.slice none 0 0) := bW0 0
  have BW1 : BoxAt W (w.heap.size + 1) #[.int .i64 0, .slice none 0 0, .slice none 0 0] := by rw [hW.out]; refine ⟨?_, fun j => ?_, fun j => ?_⟩ <;> go_simp
  obtain ⟨lW1, bW1, fW1⟩ := BW1
  have cW1_0 : W.cell? ⟨w.heap.size + 1, 0, none⟩ = some (.int .i64 0) := bW1 0
  have cW1_1 : W.cell? ⟨w.heap.size + 1, 1, none⟩ = some (.slice none 0 0) := bW1 1
  have cW1_2 : W.cell? ⟨w.heap.size + 1, 2, none⟩ = some (.slice none 0 0) := bW1 2
  clear hW
  have HR := Lib.hid (show BoxAt W w.heap.size #[.slice none 0 0] from ⟨lW0, bW0, fW0⟩)
  have HS := Lib.hid (show BoxAt W (w.heap.size + 1) #[.int .i64 0, .slice none 0 0, .slice none 0 0] from ⟨lW1, bW1, fW1⟩)
  clear bW0 fW0 cW0_0 bW1 fW1 cW1_0 cW1_1 cW1_2
  go_wp2_with fail
  refine (l6Db_any (Hc0.out.toExt xW)).mono ?_
  rintro e w1 ⟨v1, F, d, rfl, hS1, hN, hF1, hL, hD, hc1, hC1⟩
  obtain ⟨A1, cap, rfl, hcap, _⟩ := hS1.form
  have HC1 := Lib.hid ((Chg.ofExt (F := [g]) xW).trans hC1 (fun x hx => .inl hx))
  have HR1 := Lib.hid (HR.out.chg hC1 (by simp; omega))
  have HT1 := Lib.hid (HS.out.chg hC1 (by simp; omega))
  have hz1 := hC1.size
  have HS1 := Lib.hid hS1
  have HD := Lib.hid hD
  have Hc1 := Lib.hid hc1
  have HF := Lib.hid (show ∀ b ∈ F, w.heap.size + 1 < b from fun b hb => by have := hF1 b hb; omega)
  clear hS1 hN hD hL hc1 hC1 hF1 HR HS
  go_upto_region 2 with fail
  refine wp_name ?_
  intro W2 hW2
  have x2 : ∃ y, W2 = ext w1 y := by rw [hW2.out]; exact (by refine x'z ?_; repeat (with_reducible (first | apply x'a | apply x'b | exact x'c (by assumption) | refine x'd ?_ (by assumption) | apply x'e | apply x'f | apply x'g | apply x'h | apply x'i | apply x'j | apply x'k | apply x'l | apply x'm | assumption | (refine x'n ?_; omega) | omega)))
  have B2 : BoxAt W2 w1.heap.size #[.slice A1 d.length cap] := by rw [hW2.out]; exact (by repeat (with_reducible (first | assumption | exact BoxAt.new _ _ _ | apply BoxAt.set10 | apply BoxAt.set2 | refine BoxAt.set2' ?_ (by omega) | apply BoxAt.setP0 | apply BoxAt.setP1 | refine BoxAt.setO ?_ (by omega) | refine BoxAt.alloc ?_ _ | refine BoxAt.drew ?_ | refine BoxAt.toExt ?_ (by assumption))))
  have HR2 := Lib.hid (HR1.out.toExt x2)
  have HT2 := Lib.hid (HT1.out.toExt x2)
  have HC2 := Lib.hid (HC1.out.trans0 x2)
  have Hc2 := Lib.hid (Hc1.out.toExt x2)
  have HS2 := Lib.hid (HS1.out.toExt x2)
  have hz2 := size_of_ext x2
  have HB2 := Lib.hid B2
  obtain ⟨b4, q4⟩ : ∃ b, w1.heap.size = b := ⟨_, rfl⟩
  rw [q4] at HB2 B2 hz1 hz2 ⊢
  have hb4 : b4 < W2.heap.size := B2.1
  have n4g : b4 ≠ g := by omega
  clear hW2 B2 q4 HS1 HR1 HT1 HC1 Hc1
  go_wp2_with fail
  refine (l7Query_any Hc2.out).mono ?_
  rintro e w3 ⟨u0, u1, u2, FQ, q, rfl, hS3, hN3, hF3, hQ3, hc3, hC3⟩
  obtain ⟨A3, a3, B3, b3, rfl, rfl, rfl⟩ := sQ_form hS3
  have HQ := Lib.hid hQ3.q
  have HSQ := Lib.hid hS3
  have HR3 := Lib.hid (HR2.out.chg hC3 (by simp; omega))
  have HT3 := Lib.hid (HT2.out.chg hC3 (by simp; omega))
  have HB3 := Lib.hid (HB2.out.chg hC3 (by simpa using n4g))
  have HC3 := Lib.hid (HC2.out.trans hC3 (fun x hx => .inl hx))
  have HS3 := Lib.hid (HS2.out.chg hC3 (fun b hb h => by have := HF.out b hb; rw [List.mem_singleton.1 h] at this; omega))
  have Hc3 := Lib.hid hc3
  have HFQ := Lib.hid (show ∀ b ∈ FQ, w.heap.size + 1 < b from fun b hb => by have := hF3 b hb; omega)
  have hz3 := hC3.size
  clear hS3 hN3 hF3 hQ3 hc3 hC3 HR2 HT2 HB2 HC2 HS2 Hc2
  go_upto_region 3 with fail
  refine wp_name ?_
  intro W4 hW4
  have x4 : ∃ y, W4 = ext w3 y := by rw [hW4.out]; exact (by refine x'z ?_; repeat (with_reducible (first | apply x'a | apply x'b | exact x'c (by assumption) | refine x'd ?_ (by assumption) | apply x'e | apply x'f | apply x'g | apply x'h | apply x'i | apply x'j | apply x'k | apply x'l | apply x'm | assumption | (refine x'n ?_; omega) | omega)))
  have B5 : BoxAt W4 w3.heap.size #[.int .i64 q.1, .slice A3 q.2.1.length a3, .slice B3 q.2.2.length b3] := by rw [hW4.out]; exact (by repeat (with_reducible (first | assumption | exact BoxAt.new _ _ _ | apply BoxAt.set3 | refine BoxAt.set3' ?_ (by omega) | apply BoxAt.set30 | apply BoxAt.set31 | apply BoxAt.set32 | apply BoxAt.set2 | refine BoxAt.set2' ?_ (by omega) | apply BoxAt.setP0 | apply BoxAt.setP1 | refine BoxAt.setO ?_ (by omega) | refine BoxAt.alloc ?_ _ | refine BoxAt.drew ?_ | refine BoxAt.toExt ?_ (by assumption))))
  have HR4 := Lib.hid (HR3.out.toExt x4)
  have HT4 := Lib.hid (HT3.out.toExt x4)
  have HB4 := Lib.hid (HB3.out.toExt x4)
  have HC4 := Lib.hid (HC3.out.trans0 x4)
  have Hc4 := Lib.hid (Hc3.out.toExt x4)
  have HS4 := Lib.hid (HS3.out.toExt x4)
  have HQ4 := Lib.hid (OD.toExt HSQ.out x4)
  have HB5 := Lib.hid B5
  have hz4 := size_of_ext x4
  obtain ⟨b5, q5⟩ : ∃ b, w3.heap.size = b := ⟨_, rfl⟩
  rw [q5] at HB5 B5 hz3 hz4 ⊢
  have hb5 : b5 < W4.heap.size := B5.1
  have n5g : b5 ≠ g := by omega
  clear hW4 B5 q5 HR3 HT3 HB3 HC3 Hc3 HS3 HSQ
  go_wp2_with fail
  refine (l1Below_any Hc4.out (by omega) (by omega)).mono ?_
  rintro e w5 ⟨x, rfl, hx0, hx1, hc5, hC5⟩
  have HR5 := Lib.hid (HR4.out.chg hC5 (by simp; omega))
  have HT5 := Lib.hid (HT4.out.chg hC5 (by simp; omega))
  have HB5d := Lib.hid (HB4.out.chg hC5 (by simpa using n4g))
  have HB5q := Lib.hid (HB5.out.chg hC5 (by simpa using n5g))
  have HC5 := Lib.hid (HC4.out.trans hC5 (fun x hx => .inl hx))
  have Hc5 := Lib.hid hc5
  have HS5 := Lib.hid (HS4.out.chg hC5 (fun b hb h => by have := HF.out b hb; rw [List.mem_singleton.1 h] at this; omega))
  have HQ5 := Lib.hid (OD.chg HQ4.out hC5 (fun b hb h => by have := HFQ.out b hb; rw [List.mem_singleton.1 h] at this; omega))
  have hz5 := hC5.size
  clear hc5 hC5 HR4 HT4 HB4 HC4 Hc4 HS4 HQ4 HB5
  obtain ⟨l5d, k5d, f5d⟩ := bx1 HB5d.out
  obtain ⟨l5q, k5q0, k5q1, k5q2, f5q⟩ := box3 HB5q.out
  by_cases e0 : x = 0
  · have q0 : (x == 0) = true := by simp [e0]
    have q1 : (x == 1) = false := by simp [e0]
    clear e0
    go_upto_region 5 with fail
    go_region_with (first | (go_at_call 141; (with_reducible refine (l6Any_any (Hc5.out.toExt (drew_ext _))).mono ?_); rintro e w6 ⟨A6, c6, d6, rfl, hV6, hcap6, hD6, hc6, hC6⟩; obtain ⟨l6q, k6q0, k6q1, k6q2, f6q⟩ := box3 ((HB5q.out.drew).chg hC6 (by simpa using n5g)); obtain ⟨l6r, k6r, f6r⟩ := bx1 ((HR5.out.drew).chg hC6 (by simp; omega)); obtain ⟨l6t, k6t0, k6t1, k6t2, f6t⟩ := box3 ((HT5.out.drew).chg hC6 (by simp; omega)); have HP9 := Lib.hid (pers_two (w := w) (n := w5.drew.heap.size) hV6 (by rw [show w5.drew.heap.size = w5.heap.size from rfl]; omega) (OD.chg (OD.toExt HQ5.out (drew_ext _)) hC6 (fun b hb h => by have := HFQ.out b hb; rw [List.mem_singleton.1 h] at this; omega)) HFQ.out); have HCP := Lib.hid hcap6; have HD9 := Lib.hid hD6; have HQ9 := HQ; have Hc9 := Lib.hid hc6; have HC9 := Lib.hid (HC5.out.drew.trans hC6 (fun x hx => .inl hx)); clear hV6 hD6 hc6 hC6))
    all_goals
      go_wp2
      refine bodyPost_ret (v := .tuple #[.agg #[.slice A6 d6.length c6], .agg #[.int .i64 q.1, .slice A3 q.2.1.length a3, .slice B3 q.2.2.length b3]]) (by simp [results, Try.results154, go_sem, *]) rfl ?_
      show BothP w0 g w _ _
      have hC9 := (((((Chg.refl [w.heap.size, w.heap.size + 1] w6).setCell (p := ⟨w.heap.size, 0, none⟩) (.inl (by simp)) (.slice A6 d6.length c6)).setCell (p := ⟨w.heap.size + 1, 0, none⟩) (.inl (by simp)) (.int .i64 q.1)).setCell (p := ⟨w.heap.size + 1, 1, none⟩) (.inl (by simp)) (.slice A3 q.2.1.length a3)).setCell (p := ⟨w.heap.size + 1, 2, none⟩) (.inl (by simp)) (.slice B3 q.2.2.length b3))
      exact ⟨A6, c6, d6, _, _, _, q, rfl, fun GG w2 hG hC2 => HP9.out GG w2 hG ((hC9.mono (G := w.heap.size :: (w.heap.size + 1) :: GG) (fun x hx => .inl (by simp at hx; rcases hx with h | h <;> simp [h]))).trans hC2 (fun x hx => .inl (by simp [hx]))), HCP.out, HD9.out, HQ9.out, Hc9.out.chg hC9 (by simp; omega) (by simp; omega), HC9.out.trans hC9 (fun x hx => .inr (by simp at hx; omega))⟩
  · have q0 : (x == 0) = false := by simp [e0]
    by_cases e1 : x = 1
    · have q1 : (x == 1) = true := by simp [e1]
      clear e0 e1
      go_upto_region 7 with fail
      go_region_law (first | (rw [if_pos (by simp [Region.wanted])]; go_wp2_with (go_at_call 145; refine (l7Any_any (Hc5.out.toExt (drew_ext _))).mono ?_; rintro e w6 ⟨u0, u1, u2, F6, q6, rfl, hS6, hN6, hF6, hQ6, hc6, hC6⟩; obtain ⟨A6, a6, B6, b6, rfl, rfl, rfl⟩ := sQ_form hS6; obtain ⟨l6d, k6d, f6d⟩ := bx1 ((HB5d.out.drew).chg hC6 (by simpa using n4g)); obtain ⟨l6r, k6r, f6r⟩ := bx1 ((HR5.out.drew).chg hC6 (by simp; omega)); obtain ⟨l6t, k6t0, k6t1, k6t2, f6t⟩ := box3 ((HT5.out.drew).chg hC6 (by simp; omega)); have HP9 := Lib.hid (pers_two (w := w) (n := w.heap.size + 2) (((HS5.out.toExt (drew_ext _)).chg hC6 (fun b hb h => by have := HF.out b hb; rw [List.mem_singleton.1 h] at this; omega)).persN (fun _ => sTb_v) (fun b hb => HF.out b hb)) (Nat.le_refl _) hS6 (fun b hb => by have h := hF6 b hb; rw [show w5.drew.heap.size = w5.heap.size from rfl] at h; omega)); have HCP := Lib.hid hcap; have HD9 := HD; have HQ9 := Lib.hid hQ6; have Hc9 := Lib.hid hc6; have HC9 := Lib.hid (HC5.out.drew.trans hC6 (fun x hx => .inl hx)); clear hS6 hN6 hF6 hQ6 hc6 hC6)))
      all_goals
        go_wp2
        refine bodyPost_ret (v := .tuple #[.agg #[.slice A1 d.length cap], .agg #[.int .i64 q6.1, .slice A6 q6.2.1.length a6, .slice B6 q6.2.2.length b6]]) (by simp [results, Try.results154, go_sem, *]) rfl ?_
        show BothP w0 g w _ _
        have hC9 := (((((Chg.refl [w.heap.size, w.heap.size + 1] w6).setCell (p := ⟨w.heap.size, 0, none⟩) (.inl (by simp)) (.slice A1 d.length cap)).setCell (p := ⟨w.heap.size + 1, 0, none⟩) (.inl (by simp)) (.int .i64 q6.1)).setCell (p := ⟨w.heap.size + 1, 1, none⟩) (.inl (by simp)) (.slice A6 q6.2.1.length a6)).setCell (p := ⟨w.heap.size + 1, 2, none⟩) (.inl (by simp)) (.slice B6 q6.2.2.length b6))
        exact ⟨A1, cap, d, _, _, _, q6, rfl, fun GG w2 hG hC2 => HP9.out GG w2 hG ((hC9.mono (G := w.heap.size :: (w.heap.size + 1) :: GG) (fun x hx => .inl (by simp at hx; rcases hx with h | h <;> simp [h]))).trans hC2 (fun x hx => .inl (by simp [hx]))), HCP.out, HD9.out, HQ9.out, Hc9.out.chg hC9 (by simp; omega) (by simp; omega), HC9.out.trans hC9 (fun x hx => .inr (by simp at hx; omega))⟩
    · have q1 : (x == 1) = false := by simp [e1]
      clear e0 e1
      have HP9 := Lib.hid (pers_two (w := w) (WW := w5.drew) (n := w.heap.size + 2) ((HS5.out.toExt (drew_ext _)).persN (fun _ => sTb_v) (fun b hb => HF.out b hb)) (Nat.le_refl _) (OD.toExt HQ5.out (drew_ext _)) HFQ.out)
      have HCP := Lib.hid hcap
      have HD9 := HD
      have HQ9 := HQ
      have Hc9 := Lib.hid (Hc5.out.toExt (drew_ext _))
      have HC9 := Lib.hid (HC5.out.drew)
      obtain ⟨l6r, k6r, f6r⟩ := bx1 HR5.out
      obtain ⟨l6t, k6t0, k6t1, k6t2, f6t⟩ := box3 HT5.out
      go_upto_region 8 with fail
      go_region_with (fail)
      all_goals
        go_wp2
        refine bodyPost_ret (v := .tuple #[.agg #[.slice A1 d.length cap], .agg #[.int .i64 q.1, .slice A3 q.2.1.length a3, .slice B3 q.2.2.length b3]]) (by simp [results, Try.results154, go_sem, *]) rfl ?_
        show BothP w0 g w _ _
        have hC9 := (((((Chg.refl [w.heap.size, w.heap.size + 1] w5.drew).setCell (p := ⟨w.heap.size, 0, none⟩) (.inl (by simp)) (.slice A1 d.length cap)).setCell (p := ⟨w.heap.size + 1, 0, none⟩) (.inl (by simp)) (.int .i64 q.1)).setCell (p := ⟨w.heap.size + 1, 1, none⟩) (.inl (by simp)) (.slice A3 q.2.1.length a3)).setCell (p := ⟨w.heap.size + 1, 2, none⟩) (.inl (by simp)) (.slice B3 q.2.2.length b3))
        exact ⟨A1, cap, d, _, _, _, q, rfl, fun GG w2 hG hC2 => HP9.out GG w2 hG ((hC9.mono (G := w.heap.size :: (w.heap.size + 1) :: GG) (fun x hx => .inl (by simp at hx; rcases hx with h | h <;> simp [h]))).trans hC2 (fun x hx => .inl (by simp [hx]))), HCP.out, HD9.out, HQ9.out, Hc9.out.chg hC9 (by simp; omega) (by simp; omega), HC9.out.trans hC9 (fun x hx => .inr (by simp at hx; omega))⟩
end Go.Proofs.Ytfigcfajkilhiaa

/- The reference's draws for the laws on bindings and evaluation. -/
namespace Go.Proofs.Ytfigcfajkilhiaa
open Go.RowKit
def DevP (w : World) (e : Ending) (w' : World) : Prop := ∃ A c d B b C c' q, e = .returned (.tuple #[.agg #[.slice A d.length c], .agg #[.int .i64 q.1, .slice B q.2.1.length b, .slice C q.2.2.length c']]) ∧ RV 3 vTb w' A d ∧ vQ w' [.int .i64 q.1, .slice B q.2.1.length b, .slice C q.2.2.length c'] q ∧ d.length ≤ c ∧ DrD d ∧ QaD q ∧ ∃ y, w' = ext w y
set_option maxRecDepth 100000 in
set_option maxHeartbeats 8000000 in
theorem DrawEvaluateQuery_any {A : Option Addr} {c : Nat} {bs : List UInt8} {w : World} (hx : bs.length ≤ 1048576) (h1 : RU w A bs) :
    Calls Try.prog 79 #[.slice A bs.length c] w (DevP w) := by
  go_enter Try.func79, Try.ntmps79
  go_upto_region 1 with fail
  refine wp_name ?_
  intro W hW
  have xW : ∃ y, W = ext w y := by rw [hW.out]; exact (by refine x'z ?_; repeat (with_reducible (first | apply x'a | apply x'b | exact x'c (by assumption) | refine x'd ?_ (by assumption) | apply x'e | apply x'f | apply x'g | apply x'h | apply x'i | apply x'j | apply x'k | apply x'l | apply x'm | assumption | (refine x'n ?_; omega) | omega)))
  have BW0 : BoxAt W (w.heap.size) #[.slice none 0 0] := by rw [hW.out]; refine ⟨?_, fun j => ?_, fun j => ?_⟩ <;> go_simp
  obtain ⟨lW0, bW0, fW0⟩ := BW0
  have cW0_0 : W.cell? ⟨w.heap.size, 0, none⟩ = some (.slice none 0 0) := bW0 0
  have BW1 : BoxAt W (w.heap.size + 1) #[.int .i64 0, .slice none 0 0, .slice none 0 0] := by rw [hW.out]; refine ⟨?_, fun j => ?_, fun j => ?_⟩ <;> go_simp
  obtain ⟨lW1, bW1, fW1⟩ := BW1
  have cW1_0 : W.cell? ⟨w.heap.size + 1, 0, none⟩ = some (.int .i64 0) := bW1 0
  have cW1_1 : W.cell? ⟨w.heap.size + 1, 1, none⟩ = some (.slice none 0 0) := bW1 1
  have cW1_2 : W.cell? ⟨w.heap.size + 1, 2, none⟩ = some (.slice none 0 0) := bW1 2
  clear hW
  have HR := Lib.hid (show BoxAt W w.heap.size #[.slice none 0 0] from ⟨lW0, bW0, fW0⟩)
  have HT := Lib.hid (show BoxAt W (w.heap.size + 1) #[.int .i64 0, .slice none 0 0, .slice none 0 0] from ⟨lW1, bW1, fW1⟩)
  clear bW0 fW0 cW0_0 bW1 fW1 cW1_0 cW1_1 cW1_2
  go_wp2_with fail
  refine (l1New_any hx (h1.toExt xW)).mono ?_
  rintro e w1 ⟨g, rfl, hc1⟩
  have hg1 := hc1.1
  have hgl := hc1.lt
  have HR1 := Lib.hid (HR.out.toExt hc1.2.1)
  have HT1 := Lib.hid (HT.out.toExt hc1.2.1)
  have hz1 := size_of_ext hc1.2.1
  clear HR HT
  go_wp2_with fail
  refine (l7Both_any hc1).mono ?_
  rintro e w2 ⟨A2, c2, d, v0, v1, v2, q, rfl, hP, hcap, hD, hQ, hc2, hC2⟩
  obtain ⟨B2, b2, C2, c3, hsh⟩ := vQ_shape (hP [] w2 (by simp) (Chg.refl _ _)).2
  simp only [List.cons.injEq, and_true] at hsh
  obtain ⟨rfl, rfl, rfl⟩ := hsh
  have HP := Lib.hid hP
  have HCP := Lib.hid hcap
  have HD := Lib.hid hD
  have HQ := Lib.hid hQ
  have HR2 := Lib.hid (HR1.out.chg hC2 (by simp; omega))
  have HT2 := Lib.hid (HT1.out.chg hC2 (by simp; omega))
  have HX2 := Lib.hid (trans_ext xW hc2.2.1)
  have hz2 := hC2.size
  clear hP hcap hD hQ hc2 hC2 hc1 HR1 HT1
  go_upto_region 2 with fail
  refine wp_name ?_
  intro W3 hW3
  have x3 : ∃ y, W3 = ext w2 y := by rw [hW3.out]; exact (by refine x'z ?_; repeat (with_reducible (first | apply x'a | apply x'b | exact x'c (by assumption) | refine x'd ?_ (by assumption) | apply x'e | apply x'f | apply x'g | apply x'h | apply x'i | apply x'j | apply x'k | apply x'l | apply x'm | assumption | (refine x'n ?_; omega) | omega)))
  have B4 : BoxAt W3 w2.heap.size #[.slice A2 d.length c2] := by rw [hW3.out]; exact (BoxAt.new _ _ _).toExt (alloc_ext _ _)
  have B5 : BoxAt W3 (w2.heap.size + 1) #[.int .i64 q.1, .slice B2 q.2.1.length b2, .slice C2 q.2.2.length c3] := by rw [hW3.out]; exact box_second
  obtain ⟨l4, k4, f4⟩ := bx1 B4
  obtain ⟨l5, k50, k51, k52, f5⟩ := box3 B5
  obtain ⟨lr, kr, fr⟩ := bx1 (HR2.out.toExt x3)
  obtain ⟨lt, kt0, kt1, kt2, ft⟩ := box3 (HT2.out.toExt x3)
  have HX3 := Lib.hid (trans_ext HX2.out x3)
  clear hW3 B4 B5
  go_region_with (fail)
  all_goals
    go_wp2
    refine bodyPost_ret (v := .tuple #[.agg #[.slice A2 d.length c2], .agg #[.int .i64 q.1, .slice B2 q.2.1.length b2, .slice C2 q.2.2.length c3]]) (by simp [results, Try.results79, go_sem, *]) rfl ?_
    show DevP w _ _
    have hC9 := (((((Chg.refl [w.heap.size, w.heap.size + 1] W3.drew).setCell (p := ⟨w.heap.size, 0, none⟩) (.inl (by simp)) (.slice A2 d.length c2)).setCell (p := ⟨w.heap.size + 1, 0, none⟩) (.inl (by simp)) (.int .i64 q.1)).setCell (p := ⟨w.heap.size + 1, 1, none⟩) (.inl (by simp)) (.slice B2 q.2.1.length b2)).setCell (p := ⟨w.heap.size + 1, 2, none⟩) (.inl (by simp)) (.slice C2 q.2.2.length c3))
    have hPP := HP.out [w.heap.size, w.heap.size + 1] _ (fun x hx => by simp at hx; omega) ((Chg.ofExt (F := [w.heap.size, w.heap.size + 1]) (trans_ext x3 (drew_ext W3))).trans hC9 (fun x hx => .inl hx))
    exact ⟨_, _, d, _, _, _, _, q, rfl, hPP.1, hPP.2, HCP.out, HD.out, HQ.out, hC9.isExt (trans_ext HX3.out (drew_ext _)) (by simp)⟩
def DfrelP (w : World) (e : Ending) (w' : World) : Prop := ∃ A c r, e = .returned (.agg #[.int .i64 r.1, .slice A r.2.length c]) ∧ vRel w' [.int .i64 r.1, .slice A r.2.length c] r ∧ AnyR r ∧ ∃ y, w' = ext w y
set_option maxRecDepth 100000 in
set_option maxHeartbeats 8000000 in
theorem DrawFormatRelation_any {A : Option Addr} {c : Nat} {bs : List UInt8} {w : World} (hx : bs.length ≤ 1048576) (h1 : RU w A bs) :
    Calls Try.prog 52 #[.slice A bs.length c] w (DfrelP w) := by
  go_enter Try.func52, Try.ntmps52
  go_upto_region 1 with fail
  refine wp_name ?_
  intro W hW
  have xW : ∃ y, W = ext w y := by rw [hW.out]; exact (by refine x'z ?_; repeat (with_reducible (first | apply x'a | apply x'b | exact x'c (by assumption) | refine x'd ?_ (by assumption) | apply x'e | apply x'f | apply x'g | apply x'h | apply x'i | apply x'j | apply x'k | apply x'l | apply x'm | assumption | (refine x'n ?_; omega) | omega)))
  have BW0 : BoxAt W (w.heap.size) #[.int .i64 0, .slice none 0 0] := by rw [hW.out]; refine ⟨?_, fun j => ?_, fun j => ?_⟩ <;> go_simp
  obtain ⟨lW0, bW0, fW0⟩ := BW0
  have cW0_0 : W.cell? ⟨w.heap.size, 0, none⟩ = some (.int .i64 0) := bW0 0
  have cW0_1 : W.cell? ⟨w.heap.size, 1, none⟩ = some (.slice none 0 0) := bW0 1
  clear hW
  have HR := Lib.hid (show BoxAt W w.heap.size #[.int .i64 0, .slice none 0 0] from ⟨lW0, bW0, fW0⟩)
  clear bW0 fW0 cW0_0 cW0_1
  go_wp2_with fail
  refine (l1New_any hx (h1.toExt xW)).mono ?_
  rintro e w1 ⟨g, rfl, hc1⟩
  have hg1 := hc1.1
  have HR1 := Lib.hid (HR.out.toExt hc1.2.1)
  have hz1 := size_of_ext hc1.2.1
  go_wp2_with fail
  refine (l5Any_any hc1).mono ?_
  rintro e w2 ⟨u0, u1, F, r, rfl, hS, hN, hF, hA, hc2, hC2⟩
  obtain ⟨A2, c2, rfl, rfl, _⟩ := sRel_form hS
  have HS := Lib.hid hS
  have HF := Lib.hid (show ∀ b ∈ F, w.heap.size < b from fun b hb => by have := hF b hb; omega)
  have HA := Lib.hid hA
  have HX := Lib.hid (trans_ext xW hc2.2.1)
  obtain ⟨l2, k20, k21, f2⟩ := bx2 (HR1.out.chg hC2 (by simp; omega))
  clear hS hN hF hA hc2 hC2 hc1
  go_wp2
  refine bodyPost_ret (v := .agg #[.int .i64 r.1, .slice A2 r.2.length c2]) (by simp [results, Try.results52, go_sem, *]) rfl ?_
  show DfrelP w _ _
  have hC9 := ((Chg.refl [w.heap.size] w2).setCell (p := ⟨w.heap.size, 0, none⟩) (.inl (by simp)) (.int .i64 r.1)).setCell (p := ⟨w.heap.size, 1, none⟩) (.inl (by simp)) (.slice A2 r.2.length c2)
  exact ⟨_, _, r, rfl, sRel_v _ _ _ (OD.chg HS.out hC9 (fun b hb h => by have := HF.out b hb; rw [List.mem_singleton.1 h] at this; omega)), HA.out, hC9.isExt HX.out (by simp)⟩
def DfdbP (w : World) (e : Ending) (w' : World) : Prop := ∃ A c d, e = .returned (.agg #[.slice A d.length c]) ∧ RV 3 vTb w' A d ∧ d.length ≤ c ∧ DrD d ∧ ∃ y, w' = ext w y
set_option maxRecDepth 100000 in
set_option maxHeartbeats 8000000 in
theorem DrawFormatDatabase_any {A : Option Addr} {c : Nat} {bs : List UInt8} {w : World} (hx : bs.length ≤ 1048576) (h1 : RU w A bs) :
    Calls Try.prog 58 #[.slice A bs.length c] w (DfdbP w) := by
  go_enter Try.func58, Try.ntmps58
  go_upto_region 1 with fail
  refine wp_name ?_
  intro W hW
  have xW : ∃ y, W = ext w y := by rw [hW.out]; exact (by refine x'z ?_; repeat (with_reducible (first | apply x'a | apply x'b | exact x'c (by assumption) | refine x'd ?_ (by assumption) | apply x'e | apply x'f | apply x'g | apply x'h | apply x'i | apply x'j | apply x'k | apply x'l | apply x'm | assumption | (refine x'n ?_; omega) | omega)))
  have BW0 : BoxAt W (w.heap.size) #[.slice none 0 0] := by rw [hW.out]; refine ⟨?_, fun j => ?_, fun j => ?_⟩ <;> go_simp
  obtain ⟨lW0, bW0, fW0⟩ := BW0
  have cW0_0 : W.cell? ⟨w.heap.size, 0, none⟩ = some (.slice none 0 0) := bW0 0
  clear hW
  have HR := Lib.hid (show BoxAt W w.heap.size #[.slice none 0 0] from ⟨lW0, bW0, fW0⟩)
  clear bW0 fW0 cW0_0
  go_wp2_with fail
  refine (l1New_any hx (h1.toExt xW)).mono ?_
  rintro e w1 ⟨g, rfl, hc1⟩
  have hg1 := hc1.1
  have HR1 := Lib.hid (HR.out.toExt hc1.2.1)
  have hz1 := size_of_ext hc1.2.1
  go_wp2_with fail
  refine (l6Any_any hc1).mono ?_
  rintro e w2 ⟨A2, c2, d, rfl, hP, hcap, hD, hc2, hC2⟩
  have HP := Lib.hid hP
  have HD := Lib.hid hD
  have HCP := Lib.hid hcap
  have HX := Lib.hid (trans_ext xW hc2.2.1)
  obtain ⟨l2, k20, f2⟩ := bx1 (HR1.out.chg hC2 (by simp; omega))
  clear hP hD hcap hc2 hC2 hc1
  go_wp2
  refine bodyPost_ret (v := .agg #[.slice A2 d.length c2]) (by simp [results, Try.results58, go_sem, *]) rfl ?_
  show DfdbP w _ _
  have hC9 := (Chg.refl [w.heap.size] w2).setCell (p := ⟨w.heap.size, 0, none⟩) (.inl (by simp)) (.slice A2 d.length c2)
  exact ⟨_, _, d, rfl, HP.out [w.heap.size] _ (fun x hx => by rw [List.mem_singleton.1 hx]; omega) hC9, HCP.out, HD.out, hC9.isExt HX.out (by simp)⟩
end Go.Proofs.Ytfigcfajkilhiaa
