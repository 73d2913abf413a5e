/- Contracts of functions that the statement reaches. -/
import Derived.Test.YtfigcfajkilhiaaJ12
import Derived.Test.YtfigcfajkilhiaaJ18
import Derived.Test.YtfigcfajkilhiaaRows
import Derived.Test.YtfigcfajkilhiaaJ01
import Derived.Deep.RegionLaw
import Derived.Deep.DrawnRows
import Derived.Test.YtfigcfajkilhiaaJ10
namespace Go.Proofs.Ytfigcfajkilhiaa
open Go.RowKit
def vix (b : UInt8) : Option Int := if b = 88 then some 0 else if b = 89 then some 1 else if b = 90 then some 2 else if b = 85 then some 3 else if b = 86 then some 4 else none
def pnG : List Int → List UInt8 → Option (List Int)
  | acc, [] => some acc
  | acc, b :: l => match vix b with
    | none => none
    | some v => pnG (acc ++ [v]) l
def pnB (s : ByteArray) : Bool := decide (2 ≤ s.size) && decide ((bl s).head? = some 40) && decide ((bl s).getLast? = some 41)
def pN (s : ByteArray) : Option (List Int) := if pnB s = true then pnG [] (((bl s).take (s.size - 1)).drop 1) else none
def ixc (c : UInt8) : List UInt8 → Nat
  | [] => 0
  | x :: xs => if x = c then 0 else ixc c xs + 1
def mxv (n : Int) (vs : List Int) : Int := vs.foldl (fun m v => max m (v + 1)) n
def pqG : Int → List At → List ByteArray → Option (Int × List At)
  | n, ats, [] => some (n, ats)
  | n, ats, w :: ws => match pN (w.extract (ixc 40 (bl w)) w.size) with
    | none => none
    | some vs => pqG (mxv n vs) (ats ++ [(w.extract 0 (ixc 40 (bl w)), vs)]) ws
def finQ (d : Qd) (s : ByteArray) : Option Qd := if fmtQ d = s ∧ s.size ≠ 0 then some d else none
def pQ (s : ByteArray) : Option Qd := match pN ((splB 61 s).getD 0 ⟨#[]⟩) with
  | none => none
  | some out => if (splB 61 s).length = 2 then (match pqG 0 [] (splB 44 ((splB 61 s).getD 1 ⟨#[]⟩)) with
    | none => none
    | some r => finQ (r.1, r.2, out) s) else none
def lst (l : List UInt8) : List Int := l.filterMap vix
def pqS : Int → List At → List ByteArray → Int × List At
  | n, ats, [] => (n, ats)
  | n, ats, w :: ws => pqS (mxv n (lst (bl w))) (ats ++ [((splB 40 w).getD 0 ⟨#[]⟩, lst (bl w))]) ws
def pQs (s : ByteArray) : Option Qd := if (splB 61 s).length = 2 then finQ ((pqS 0 [] (splB 44 ((splB 61 s).getD 1 ⟨#[]⟩))).1, (pqS 0 [] (splB 44 ((splB 61 s).getD 1 ⟨#[]⟩))).2, lst (bl ((splB 61 s).getD 0 ⟨#[]⟩))) s else none
theorem finQ_some {d q : Qd} {s : ByteArray} (h : finQ d s = some q) : d = q ∧ vqB q = true ∧ fmtQ q = s := by
  unfold finQ at h
  split at h
  · rename_i h1
    injection h with h
    subst h
    refine ⟨rfl, ?_, h1.1⟩
    cases hv : vqB d with
    | true => rfl
    | false =>
      refine absurd ?_ h1.2
      rw [← h1.1]
      unfold fmtQ
      rw [hv]
      rfl
  · cases h
theorem finQ_self {d : Qd} (h : vqB d = true) : finQ d (fmtQ d) = some d := by
  have hs : (fmtQ d).size ≠ 0 := by
    unfold fmtQ
    rw [if_pos h, ba_size, ba_size, ba_size, show (ByteArray.mk #[40]).size = 1 from rfl]
    omega
  unfold finQ
  rw [if_pos ⟨rfl, hs⟩]
theorem pQ_some {s : ByteArray} {d : Qd} (h : pQ s = some d) : vqB d = true ∧ fmtQ d = s := by
  unfold pQ at h
  split at h
  · cases h
  · split at h
    · split at h
      · cases h
      · exact (finQ_some h).2
    · cases h
theorem pQs_some {s : ByteArray} {d : Qd} (h : pQs s = some d) : vqB d = true ∧ fmtQ d = s := by
  unfold pQs at h
  split at h
  · exact (finQ_some h).2
  · cases h
theorem vix_vname {v : Int} (h0 : 0 ≤ v) (h4 : v ≤ 4) : ∃ b, bl (vname v) = [b] ∧ vix b = some v ∧ b ≠ 40 ∧ b ≠ 44 ∧ b ≠ 61 := by
  have h : v = 0 ∨ v = 1 ∨ v = 2 ∨ v = 3 ∨ v = 4 := by omega
  rcases h with rfl | rfl | rfl | rfl | rfl
  · exact ⟨88, by decide, by decide, by decide, by decide, by decide⟩
  · exact ⟨89, by decide, by decide, by decide, by decide, by decide⟩
  · exact ⟨90, by decide, by decide, by decide, by decide, by decide⟩
  · exact ⟨85, by decide, by decide, by decide, by decide, by decide⟩
  · exact ⟨86, by decide, by decide, by decide, by decide, by decide⟩
theorem names_cons (v : Int) (l : List Int) : names (v :: l) = vname v ++ names l := by
  show nmG (⟨#[]⟩ ++ vname v) l = _
  rw [nil_ba, nmG_eq]
def In5 (l : List Int) : Prop := ∀ v ∈ l, 0 ≤ v ∧ v ≤ 4
theorem names_ne : ∀ {l : List Int}, In5 l → ∀ x ∈ bl (names l), x ≠ 40 ∧ x ≠ 44 ∧ x ≠ 61
  | [], _, x, hx => by simp [names, nmG, bl] at hx
  | v :: l, h, x, hx => by
    rw [names_cons, bl_app] at hx
    obtain ⟨b, e, _, n1, n2, n3⟩ := vix_vname (h v (by simp)).1 (h v (by simp)).2
    rcases List.mem_append.1 hx with hx | hx
    · rw [e] at hx
      rw [List.mem_singleton.1 hx]
      exact ⟨n1, n2, n3⟩
    · exact names_ne (fun u hu => h u (by simp [hu])) x hx
theorem pnG_names : ∀ {l : List Int}, In5 l → ∀ acc, pnG acc (bl (names l)) = some (acc ++ l)
  | [], _, acc => by simp [names, nmG, bl, pnG]
  | v :: l, h, acc => by
    obtain ⟨b, e, e2, _⟩ := vix_vname (h v (by simp)).1 (h v (by simp)).2
    rw [names_cons, bl_app, e, List.singleton_append, pnG, e2]
    simp only
    rw [pnG_names (fun u hu => h u (by simp [hu]))]
    simp
theorem lst_names : ∀ {l : List Int}, In5 l → lst (bl (names l)) = l
  | [], _ => by simp [names, nmG, bl, lst]
  | v :: l, h => by
    obtain ⟨b, e, e2, _⟩ := vix_vname (h v (by simp)).1 (h v (by simp)).2
    have := lst_names (l := l) (fun u hu => h u (by simp [hu]))
    unfold lst at this ⊢
    rw [names_cons, bl_app, e, List.singleton_append, List.filterMap_cons, e2, this]
theorem bl_par (l : List Int) : bl (par l) = 40 :: (bl (names l) ++ [41]) := by
  unfold par
  rw [bl_app, bl_app]
  rfl
theorem pN_par {l : List Int} (h : In5 l) : pN (par l) = some l := by
  have e := bl_par l
  have hs : (par l).size = (bl (names l)).length + 2 := by rw [← bl_length, e]; simp
  have hb : pnB (par l) = true := by
    unfold pnB
    rw [e, hs]
    rw [decide_eq_true (by omega), decide_eq_true (by rfl), decide_eq_true (by
      rw [← List.cons_append, List.getLast?_concat])]
    rfl
  unfold pN
  rw [if_pos hb, e, hs]
  rw [show (bl (names l)).length + 2 - 1 = (bl (names l)).length + 1 by omega, List.take_succ_cons, List.drop_succ_cons, List.drop_zero, List.take_left, pnG_names h]
  rfl
theorem lst_par {l : List Int} (h : In5 l) : lst (bl (par l)) = l := by
  rw [bl_par]
  have := lst_names h
  unfold lst at this ⊢
  rw [List.filterMap_cons, show vix 40 = none from rfl, List.filterMap_append, this]
  simp [vix]
theorem ixc_app {c : UInt8} : ∀ {p : List UInt8} (_ : ∀ x ∈ p, x ≠ c) (r : List UInt8), ixc c (p ++ c :: r) = p.length
  | [], _, r => by simp [ixc]
  | x :: p, h, r => by rw [List.cons_append, ixc, if_neg (h x (by simp)), ixc_app (fun y hy => h y (by simp [hy])) r]; rfl
theorem bl_atomT (x : At) : bl (atomT x) = bl x.1 ++ bl (par x.2) := by rw [← atomT_par, bl_app]
structure OkAt (x : At) : Prop where
  nm : nameB x.1 = true
  vs : In5 x.2
theorem nameB_let {s : ByteArray} (h : nameB s = true) : ∀ x ∈ bl s, letB x = true := by
  unfold nameB at h
  rw [Bool.and_eq_true, List.all_eq_true] at h
  exact h.2
theorem let_ne {x c : UInt8} (h : letB x = true) (hc : letB c = false) : x ≠ c := by
  rintro rfl
  rw [h] at hc
  cases hc
theorem vix_let {x : UInt8} (h : letB x = true) : vix x = none := by
  have h1 : x ≠ 88 := let_ne h (by decide)
  have h2 : x ≠ 89 := let_ne h (by decide)
  have h3 : x ≠ 90 := let_ne h (by decide)
  have h4 : x ≠ 85 := let_ne h (by decide)
  have h5 : x ≠ 86 := let_ne h (by decide)
  unfold vix
  rw [if_neg h1, if_neg h2, if_neg h3, if_neg h4, if_neg h5]
theorem ix_atomT {x : At} (h : OkAt x) : ixc 40 (bl (atomT x)) = x.1.size := by
  rw [bl_atomT, bl_par, ixc_app fun y hy => let_ne (nameB_let h.nm y hy) (by decide), bl_length]
theorem ext_atomT0 {x : At} : (atomT x).extract 0 x.1.size = x.1 := by
  apply bl_inj
  rw [ext_bs, bl_bs, bl_atomT, ← bl_length x.1, List.take_left]
  rfl
theorem ext_atomT1 {x : At} : (atomT x).extract x.1.size (atomT x).size = par x.2 := by
  apply bl_inj
  rw [ext_bs, bl_bs, ← bl_length (atomT x), List.take_length, bl_atomT, ← bl_length x.1, List.drop_left]
theorem spl_atomT {x : At} (h : OkAt x) : (splB 40 (atomT x)).getD 0 ⟨#[]⟩ = x.1 := by
  unfold splB
  rw [bl_atomT, bl_par, spl_two fun y hy => let_ne (nameB_let h.nm y hy) (by decide)]
  rfl
theorem filter_let : ∀ {l : List UInt8}, (∀ x ∈ l, letB x = true) → l.filterMap vix = []
  | [], _ => rfl
  | x :: l, h => by rw [List.filterMap_cons, vix_let (h x (by simp)), filter_let fun y hy => h y (by simp [hy])]
theorem lst_atomT {x : At} (h : OkAt x) : lst (bl (atomT x)) = x.2 := by
  have h1 := lst_par h.vs
  unfold lst at h1 ⊢
  rw [bl_atomT, List.filterMap_append, h1, filter_let (nameB_let h.nm)]
  rfl
theorem pqG_text : ∀ {ats : List At}, (∀ x ∈ ats, OkAt x) → ∀ n acc, pqG n acc (ats.map atomT) = some (mxv n (seen ats), acc ++ ats)
  | [], _, n, acc => by simp [pqG, mxv, seen]
  | x :: ats, h, n, acc => by
    have hx := h x (by simp)
    rw [List.map_cons, pqG, ix_atomT hx, ext_atomT0, ext_atomT1, pN_par hx.vs]
    simp only
    rw [pqG_text (fun y hy => h y (by simp [hy]))]
    simp [mxv, seen, List.foldl_append]
theorem pqS_text : ∀ {ats : List At}, (∀ x ∈ ats, OkAt x) → ∀ n acc, pqS n acc (ats.map atomT) = (mxv n (seen ats), acc ++ ats)
  | [], _, n, acc => by simp [pqS, mxv, seen]
  | x :: ats, h, n, acc => by
    have hx := h x (by simp)
    rw [List.map_cons, pqS, spl_atomT hx, lst_atomT hx, pqS_text (fun y hy => h y (by simp [hy]))]
    simp [mxv, seen, List.foldl_append]
theorem mxv_le : ∀ {l : List Int} {n N : Int}, n ≤ N → (∀ v ∈ l, v < N) → mxv n l ≤ N
  | [], n, N, h, _ => h
  | v :: l, n, N, h, h2 => mxv_le (l := l) (n := max n (v + 1)) (by have := h2 v (by simp); omega) (fun u hu => h2 u (by simp [hu]))
theorem mxv_ge : ∀ {l : List Int} {n : Int}, n ≤ mxv n l ∧ ∀ v ∈ l, v + 1 ≤ mxv n l
  | [], n => ⟨Int.le_refl _, by simp⟩
  | v :: l, n => by
    obtain ⟨h1, h2⟩ := mxv_ge (l := l) (n := max n (v + 1))
    have e : mxv n (v :: l) = mxv (max n (v + 1)) l := rfl
    rw [e]
    refine ⟨by omega, fun u hu => ?_⟩
    rcases List.mem_cons.1 hu with rfl | hu
    · omega
    · exact h2 u hu
structure OkQ (d : Qd) : Prop where
  out : In5 d.2.2
  ats : ∀ x ∈ d.2.1, OkAt x
  ne : d.2.1 ≠ []
  cnt : mxv 0 (seen d.2.1) = d.1
theorem vqB_ok {d : Qd} (h : vqB d = true) : OkQ d := by
  unfold vqB at h
  simp only [Bool.and_eq_true, List.all_eq_true] at h
  obtain ⟨⟨⟨⟨h1, h2⟩, h3⟩, h4⟩, h5⟩ := h
  have b1 := inB_t h1
  have b2 := inB_t h2
  have h3 := (setB_sound h3).1
  have ha : ∀ x ∈ d.2.1, OkAt x ∧ ∀ v ∈ x.2, 0 ≤ v ∧ v < d.1 := by
    intro x hx
    have := h4 x hx
    unfold atomB at this
    simp only [Bool.and_eq_true, List.all_eq_true] at this
    obtain ⟨⟨k1, k2⟩, k3⟩ := this
    have k4 : ∀ v ∈ x.2, 0 ≤ v ∧ v < d.1 := fun v hv => by have := inB_t (k3 v hv); omega
    exact ⟨⟨k1, fun v hv => by have := k4 v hv; omega⟩, k4⟩
  refine ⟨fun v hv => by have := h3 v hv; omega, fun x hx => (ha x hx).1, ?_, ?_⟩
  · intro e
    rw [e] at b2
    simp at b2
  · have hlt : ∀ v ∈ seen d.2.1, v < d.1 := by
      intro v hv
      unfold seen at hv
      obtain ⟨x, hx, hv⟩ := List.mem_flatMap.1 hv
      exact ((ha x hx).2 v hv).2
    have hle := mxv_le (n := 0) (N := d.1) (by omega) hlt
    have hmem : d.1 - 1 ∈ seen d.2.1 := by
      unfold coverB mkU at h5
      rw [List.all_eq_true] at h5
      have := h5 (decide (((d.1 - 1).toNat : Int) ∈ seen d.2.1)) (List.mem_map.2 ⟨(d.1 - 1).toNat, List.mem_range.2 (by omega), rfl⟩)
      have := of_decide_eq_true this
      rwa [Int.toNat_of_nonneg (by omega)] at this
    have := (mxv_ge (n := 0)).2 _ hmem
    omega
theorem bl_fmtQ {d : Qd} (h : vqB d = true) : bl (fmtQ d) = bl (par d.2.2) ++ 61 :: jl 44 ((d.2.1.map atomT).map bl) := by
  rw [← fmtQ_par h, joinF_acc, bl_app, bl_app, joinF_jl]
  simp only [List.append_assoc]
  rfl
theorem par_ne {l : List Int} (h : In5 l) : ∀ x ∈ bl (par l), x ≠ 44 ∧ x ≠ 61 := by
  intro x hx
  rw [bl_par] at hx
  rcases List.mem_cons.1 hx with rfl | hx
  · decide
  · rcases List.mem_append.1 hx with hx | hx
    · exact (names_ne h x hx).2
    · rw [List.mem_singleton.1 hx]; decide
theorem atomT_ne {x : At} (h : OkAt x) : ∀ y ∈ bl (atomT x), y ≠ 44 ∧ y ≠ 61 := by
  intro y hy
  rw [bl_atomT] at hy
  rcases List.mem_append.1 hy with hy | hy
  · exact ⟨let_ne (nameB_let h.nm y hy) (by decide), let_ne (nameB_let h.nm y hy) (by decide)⟩
  · exact par_ne h.vs y hy
theorem jl_mem {c y : UInt8} : ∀ {ps : List (List UInt8)}, y ∈ jl c ps → y = c ∨ ∃ p ∈ ps, y ∈ p
  | [], h => by simp [jl] at h
  | [p], h => .inr ⟨p, by simp, by simpa [jl] using h⟩
  | p :: q :: ps, h => by
    rw [jl] at h
    rcases List.mem_append.1 h with h | h
    · exact .inr ⟨p, by simp, h⟩
    · rcases List.mem_cons.1 h with h | h
      · exact .inl h
      · rcases jl_mem (ps := q :: ps) h with h | ⟨r, hr, h⟩
        · exact .inl h
        · exact .inr ⟨r, List.mem_cons_of_mem _ hr, h⟩
theorem spl_fmtQ {d : Qd} (h : vqB d = true) : splB 61 (fmtQ d) = [par d.2.2, joinF ⟨#[44]⟩ 0 ⟨#[]⟩ (d.2.1.map atomT)] := by
  have ok := vqB_ok h
  have h2 : ∀ y ∈ jl 44 ((d.2.1.map atomT).map bl), y ≠ 61 := by
    intro y hy
    rcases jl_mem hy with e | ⟨p, hp, hy⟩
    · subst e; decide
    · simp only [List.map_map, List.mem_map] at hp
      obtain ⟨x, hx, rfl⟩ := hp
      exact (atomT_ne (ok.ats x hx) y hy).2
  unfold splB
  rw [bl_fmtQ h, spl_two (fun y hy => (par_ne ok.out y hy).2), spl_none h2, List.map_cons, List.map_cons, List.map_nil, ← joinF_jl]
  rfl
theorem spl_atoms {d : Qd} (h : vqB d = true) : splB 44 (joinF ⟨#[44]⟩ 0 ⟨#[]⟩ (d.2.1.map atomT)) = d.2.1.map atomT := by
  have ok := vqB_ok h
  refine splB_joinF (by simpa using ok.ne) fun p hp y hy => ?_
  obtain ⟨x, hx, rfl⟩ := List.mem_map.1 hp
  exact (atomT_ne (ok.ats x hx) y hy).1
theorem pQ_text {d : Qd} (h : vqB d = true) : pQ (fmtQ d) = some d := by
  have ok := vqB_ok h
  unfold pQ
  rw [spl_fmtQ h]
  simp only [List.getD_cons_zero, List.getD_cons_succ, List.length_cons, List.length_nil, pN_par ok.out, spl_atoms h, pqG_text ok.ats, List.nil_append, ok.cnt, if_true]
  exact finQ_self h
theorem pQs_text {d : Qd} (h : vqB d = true) : pQs (fmtQ d) = some d := by
  have ok := vqB_ok h
  unfold pQs
  rw [spl_fmtQ h]
  simp only [List.getD_cons_zero, List.getD_cons_succ, List.length_cons, List.length_nil, lst_par ok.out, spl_atoms h, pqS_text ok.ats, List.nil_append, ok.cnt, if_true]
  exact finQ_self h
theorem pQs_eq (s : ByteArray) : pQs s = pQ s := by
  cases h : pQ s with
  | some r =>
    obtain ⟨h1, rfl⟩ := pQ_some h
    exact pQs_text h1
  | none =>
    cases h2 : pQs s with
    | none => rfl
    | some r =>
      obtain ⟨h1, rfl⟩ := pQs_some h2
      rw [pQ_text h1] at h
      cases h
end Go.Proofs.Ytfigcfajkilhiaa
namespace Go.Proofs.Ytfigcfajkilhiaa
open Go.RowKit
def knownQ : List ByteArray := [⟨#[40, 88, 89, 90, 41, 61, 114, 40, 88, 89, 41, 44, 115, 40, 89, 90, 41, 44, 116, 40, 90, 88, 41]⟩, ⟨#[40, 88, 89, 90, 85, 41, 61, 114, 40, 88, 89, 41, 44, 115, 40, 89, 90, 41, 44, 116, 40, 90, 85, 41, 44, 117, 40, 85, 88, 41]⟩, ⟨#[40, 88, 89, 90, 41, 61, 114, 40, 88, 89, 41, 44, 115, 40, 89, 90, 41]⟩, ⟨#[40, 88, 41, 61, 114, 40, 88, 89, 41, 44, 115, 40, 89, 90, 41, 44, 116, 40, 90, 85, 41]⟩, ⟨#[40, 88, 89, 90, 41, 61, 118, 40, 88, 89, 90, 41, 44, 114, 40, 88, 89, 41]⟩, ⟨#[40, 88, 89, 41, 61, 114, 40, 88, 89, 41, 44, 114, 40, 89, 88, 41]⟩, ⟨#[40, 88, 89, 90, 85, 41, 61, 118, 40, 88, 89, 90, 41, 44, 115, 40, 90, 85, 41, 44, 116, 40, 85, 88, 41]⟩, ⟨#[40, 88, 41, 61, 114, 40, 88, 88, 41]⟩, ⟨#[40, 88, 89, 41, 61, 114, 40, 88, 90, 41, 44, 115, 40, 90, 89, 41, 44, 114, 40, 88, 85, 41, 44, 115, 40, 85, 89, 41]⟩, ⟨#[40, 41, 61, 114, 40, 88, 89, 41, 44, 115, 40, 89, 88, 41]⟩, ⟨#[40, 88, 89, 90, 85, 86, 41, 61, 114, 40, 88, 89, 41, 44, 115, 40, 89, 90, 41, 44, 116, 40, 90, 85, 41, 44, 117, 40, 85, 86, 41]⟩]
def fewB (q : Qd) : Bool := decide (q.1 ≤ 4) || (q.2.1.any (fun a => decide (a.2 = [0, 1])) && q.2.1.any fun b => decide (b.2 = [2, 3]))
theorem fewB_ok {q : Qd} (h : fewB q = true) : FewQ q := by
  unfold fewB at h
  rw [Bool.or_eq_true, Bool.and_eq_true, decide_eq_true_eq, List.any_eq_true, List.any_eq_true] at h
  rcases h with h | ⟨⟨a, ha, ea⟩, b, hb, eb⟩
  · exact .inl h
  · exact .inr ⟨a, ha, b, hb, of_decide_eq_true ea, of_decide_eq_true eb⟩
def knownB (s : ByteArray) : Bool := match pQ s with
  | none => false
  | some q => fewB q
theorem known_all : knownQ.all knownB = true := by decide +kernel
theorem known_ok {s : ByteArray} (h : s ∈ knownQ) : ∃ q, pQ s = some q ∧ vqB q = true ∧ FewQ q := by
  have h1 := (List.all_eq_true.1 known_all) s h
  unfold knownB at h1
  split at h1
  · cases h1
  · rename_i q hq
    exact ⟨q, hq, (pQ_some hq).1, fewB_ok h1⟩
def FewV (q : Qd) : Prop := vqB q = true → FewQ q
theorem vq_atom {n : Int} {ats : List At} {out : List Int} (h : vqB (n, ats, out) = true) : ∀ a ∈ ats, atomB n a = true := by
  unfold vqB at h
  simp only [Bool.and_eq_true] at h
  exact List.all_eq_true.1 h.1.2
theorem vq_cov {n : Int} {ats : List At} {out : List Int} (h : vqB (n, ats, out) = true) : ∀ v, 0 ≤ v → v < n → v ∈ seen ats := by
  unfold vqB at h
  simp only [Bool.and_eq_true] at h
  have k5 := h.2
  unfold coverB mkU at k5
  rw [List.all_eq_true] at k5
  intro v h0 h1
  have := k5 (decide ((v.toNat : Int) ∈ seen ats)) (List.mem_map.2 ⟨v.toNat, List.mem_range.2 (by omega), rfl⟩)
  have := of_decide_eq_true this
  rwa [Int.toNat_of_nonneg h0] at this
theorem vq_n {n : Int} {ats : List At} {out : List Int} (h : vqB (n, ats, out) = true) : 1 ≤ n ∧ n ≤ 5 := by
  unfold vqB at h
  simp only [Bool.and_eq_true] at h
  exact inB_t h.1.1.1.1
theorem atomB_in {n : Int} {a : At} (h : atomB n a = true) : (1 ≤ a.2.length ∧ a.2.length ≤ 5) ∧ ∀ v ∈ a.2, 0 ≤ v ∧ v ≤ n - 1 := by
  unfold atomB at h
  simp only [Bool.and_eq_true] at h
  have h2 := inB_t h.1.2
  exact ⟨by omega, fun v hv => inB_t (List.all_eq_true.1 h.2 v hv)⟩
theorem few_count {q : Qd} (h : vqB q = true) {n : Int} (hn : n = 0 ∨ n = 6 ∨ n = q.1 + 1) : FewV (n, q.2.1, q.2.2) := fun hv => by
  have h1 := vq_n hv
  rcases hn with rfl | rfl | e
  · omega
  · omega
  · exfalso
    have h2 := vq_n (n := q.1) (ats := q.2.1) (out := q.2.2) h
    have h3 := vq_cov hv q.1 (by omega) (by omega)
    unfold seen at h3
    obtain ⟨a, ha, hm⟩ := List.mem_flatMap.1 h3
    have := (atomB_in (vq_atom (n := q.1) (ats := q.2.1) (out := q.2.2) h a ha)).2 q.1 hm
    omega
theorem few_more {n : Int} {ats : List At} {out : List Int} (h : FewQ (n, ats, out)) (a : At) : FewQ (n, ats ++ [a], out) := by
  rcases h with h | ⟨x, hx, y, hy, ex, ey⟩
  · exact .inl h
  · exact .inr ⟨x, by simp [hx], y, by simp [hy], ex, ey⟩
theorem few_out {n : Int} {ats : List At} {out : List Int} (h : FewQ (n, ats, out)) (l : List Int) : FewQ (n, ats, l) := h
theorem mem_set_me {α : Type} {l : List α} {k : Nat} (h : k < l.length) (x : α) : x ∈ l.set k x := by
  have := List.getElem_mem (l := l.set k x) (n := k) (by simpa using h)
  rwa [List.getElem_set_self] at this
theorem few_nil {n : Int} {ats : List At} {out : List Int} {k : Nat} (hk : k < ats.length) (s : ByteArray) : FewV (n, ats.set k (s, []), out) := fun hv => by
  have := (atomB_in (vq_atom hv _ (mem_set_me hk _))).1
  simp at this
theorem few_val {n : Int} {ats : List At} {out : List Int} {k : Nat} (hk : k < ats.length) {s : ByteArray} {l : List Int} {v : Int} (hm : v ∈ l) (hv0 : v = -1 ∨ v = 5) : FewV (n, ats.set k (s, l), out) := fun hv => by
  have h1 := vq_n hv
  have := (atomB_in (vq_atom hv _ (mem_set_me hk _))).2 v hm
  omega
end Go.Proofs.Ytfigcfajkilhiaa
namespace Go.Proofs.Ytfigcfajkilhiaa
open Go.RowKit
theorem u8_eq {a b : UInt8} (h : a = b) : ((a.toNat : Int) == (b.toNat : Int)) = true := by rw [h]; simp
theorem u8_ne {a b : UInt8} (h : a ≠ b) : ((a.toNat : Int) == (b.toNat : Int)) = false := by
  rw [beq_eq_false_iff_ne]
  intro e
  exact h (UInt8.toNat_inj.1 (by omega))
set_option maxHeartbeats 1000000 in
theorem l5Cut_any {s : ByteArray} {c : UInt8} {w : World} (hs : s.size ≤ 1000000000) :
    Calls Try.prog 98 #[.string s, .int .u8 c.toNat] w fun e w' => ∃ v F, e = .returned v ∧ (∃ y, w' = ext w y) ∧ SV 9 1 sS w' v (splB c s) F ∧ ∀ b ∈ F, w.heap.size ≤ b := by
  go_enter Try.func98, Try.ntmps98
  go_wp2
  go_loopw [5, 6, 7] (fun v f i wr => ∃ (k n : Nat) (ds : List ByteArray) (F : List Nat), i = .int .i64 k ∧ f = .int .i64 n ∧ n ≤ k ∧ k ≤ s.size ∧ SplI c s n k ds ∧ SV 9 1 sS wr v ds F ∧ (∀ b ∈ F, w.heap.size ≤ b) ∧ (∃ y, wr = ext w y) ∧ ds.length ≤ k) (fun _ _ i _ => s.size + 1 - (intOf i).toNat)
  case atStart => exact ⟨0, 0, [], [w.heap.size], rfl, rfl, by omega, by omega, SplI.start c s, SV.empty w, by simp, alloc_ext _ _, by simp⟩
  case round =>
    obtain ⟨k, n, ds, F, rfl, rfl, hn, hk, hr, hS, hF, hy, hl⟩ := hrel
    have HF := Lib.hid hF
    clear hF
    by_cases hlt : k < s.size
    · by_cases hc : s[k] = c
      · have hq := u8_eq hc
        have HR := Lib.hid (hr.cut hlt hc)
        clear hr hc
        go_wp2_with (at_builtin; refine wpList_app1 (E := sS) rfl _ _ _ rfl tS rfl rfl rfl (by simp) (fun _ => ⟨rfl, rfl⟩) rfl (by simp [Value.oneCell']) hS (by omega) (by omega) ?_; intro v' w' F' hS' hC' hF')
        exact ⟨⟨k + 1, k + 1, _, F', by go_num, by go_num, by omega, by omega, HR.out, hS', newer HF.out (size_of_ext hy) hF', hC'.isExt hy HF.out, by simp; omega⟩, by simp [intOf]; omega⟩
      · have hq := u8_ne hc
        have HR := Lib.hid (hr.step hlt hn hc)
        clear hr hc
        go_wp2
        exact ⟨⟨k + 1, n, _, F, by go_num, rfl, by omega, by omega, HR.out, hS, HF.out, hy, by omega⟩, by simp [intOf]; omega⟩
    · have hk : k = s.size := by omega
      subst hk
      have HR := Lib.hid (hr.last hlt)
      clear hr
      go_wp2_with (at_builtin; refine wpList_app1 (E := sS) rfl _ _ _ rfl tS rfl rfl rfl (by simp) (fun _ => ⟨rfl, rfl⟩) rfl (by simp [Value.oneCell']) hS (by omega) (by omega) ?_; intro v' w' F' hS' hC' hF')
      go_ret
      exact ⟨_, F', rfl, hC'.isExt hy HF.out, by rw [← HR.out]; exact hS', newer HF.out (size_of_ext hy) hF'⟩
end Go.Proofs.Ytfigcfajkilhiaa
namespace Go.Proofs.Ytfigcfajkilhiaa
open Go.RowKit
theorem vix_bd {b : UInt8} {v : Int} (h : vix b = some v) : 0 ≤ v ∧ v ≤ 4 := by
  unfold vix at h
  repeat' split at h
  all_goals first | (injection h with h; omega) | cases h
theorem vix_inj {a b : UInt8} {v : Int} (h : vix a = some v) (h' : vix b = some v) : a = b := by
  unfold vix at h h'
  repeat' split at h
  all_goals first | cases h | skip
  all_goals
    repeat' split at h'
  all_goals first | cases h' | skip
  all_goals simp_all
theorem vname_eq {s : ByteArray} {i : Nat} {v : Int} (hi : i < s.size) (h0 : 0 ≤ v) (h4 : v ≤ 4) : vname v = s.extract i (i + 1) ↔ vix s[i] = some v := by
  obtain ⟨b, e1, e2, _⟩ := vix_vname h0 h4
  have e3 : bl (s.extract i (i + 1)) = [s[i]] := by
    rw [ext_bs, bl_bs, List.take_succ_eq_append_getElem (by rw [bl_length]; exact hi), List.drop_left' (by simp; rw [bl_length]; omega), bl_get s hi]
  constructor
  · intro e
    have := congrArg bl e
    rw [e1, e3] at this
    injection this with this
    rw [← this]; exact e2
  · intro e
    apply bl_inj
    rw [e1, e3, vix_inj e2 e]
def vv (b : UInt8) (k : Nat) : Int := match vix b with
  | some j => if j < k then j else -1
  | none => -1
theorem lst_step {s : ByteArray} {k : Nat} (h : k < s.size) : lst (bl (s.extract 0 (k + 1))) = lst (bl (s.extract 0 k)) ++ (match vix s[k] with | some v => [v] | none => []) := by
  have e : bl (s.extract 0 (k + 1)) = bl (s.extract 0 k) ++ [s[k]] := by
    rw [ext_bs, ext_bs, bl_bs, bl_bs, List.drop_zero, List.drop_zero, List.take_succ_eq_append_getElem (by rw [bl_length]; exact h), bl_get s h]
  rw [e]
  unfold lst
  rw [List.filterMap_append]
  congr 1
  cases e2 : vix s[k] <;> simp [e2]
theorem lst_len (l : List UInt8) : (lst l).length ≤ l.length := List.length_filterMap_le _ _
theorem lst_in (l : List UInt8) : In5 (lst l) := by
  intro v hv
  unfold lst at hv
  obtain ⟨b, _, hb⟩ := List.mem_filterMap.1 hv
  exact vix_bd hb
def ww (b : UInt8) (k : Nat) : List Int := match vix b with
  | some j => if j < k then [j] else []
  | none => []
theorem ww_zero (b : UInt8) : ww b 0 = [] := by
  unfold ww
  cases h : vix b with
  | none => rfl
  | some j => have := vix_bd h; simp only; rw [if_neg (by simp; omega)]
theorem ww_hit {b : UInt8} {k : Nat} (h : vix b = some (k : Int)) : ww b (k + 1) = ww b k ++ [(k : Int)] := by
  unfold ww
  rw [h]
  simp only
  rw [if_pos (by omega), if_neg (by omega)]
  rfl
theorem ww_miss {b : UInt8} {k : Nat} (h : ¬ vix b = some (k : Int)) : ww b (k + 1) = ww b k := by
  unfold ww
  cases e : vix b with
  | none => rfl
  | some j =>
    have hj : j ≠ k := fun e2 => h (by rw [e, e2])
    simp only
    by_cases hlt : j < k
    · rw [if_pos hlt, if_pos (by omega)]
    · rw [if_neg hlt, if_neg (by omega)]
theorem ww_five (b : UInt8) : ww b 5 = (match vix b with | some v => [v] | none => []) := by
  unfold ww
  cases e : vix b with
  | none => rfl
  | some j => have := vix_bd e; simp only; rw [if_pos (by omega)]
theorem ww_len (b : UInt8) (k : Nat) : (ww b k).length ≤ 1 := by
  unfold ww
  cases e : vix b with
  | none => simp
  | some j => simp only; split <;> simp
set_option maxRecDepth 100000 in
set_option maxHeartbeats 4000000 in
theorem l7List_any {s : ByteArray} {w : World} (hs : s.size ≤ 1000000000) : Calls Try.prog 199 #[.string s] w fun e w' => ∃ v F, e = .returned v ∧ (∃ y, w' = ext w y) ∧ SV 3 1 sI w' v (lst (bl s)) F ∧ ∀ b ∈ F, w.heap.size ≤ b := by
  go_enter Try.func199, Try.ntmps199
  go_wp2_with fail
  go_loopw [3, 4] (fun v i wr => ∃ (k : Nat) (F : List Nat), i = .int .i64 k ∧ k ≤ s.size ∧ SV 3 1 sI wr v (lst (bl (s.extract 0 k))) F ∧ (∀ b ∈ F, w.heap.size ≤ b) ∧ ∃ y, wr = ext w y) (fun _ i _ => s.size - (intOf i).toNat)
  case atStart => exact ⟨0, [w.heap.size], rfl, by omega, by rw [ext_bs, bl_bs]; exact SV.empty w, by simp, alloc_ext _ _⟩
  case round =>
    obtain ⟨k, F, rfl, hk, hS, hF, hy⟩ := hrel
    by_cases hlt : k < s.size
    · have HL := Lib.hid (lst_step hlt)
      have hlen : (lst (bl (s.extract 0 k))).length ≤ k := Nat.le_trans (lst_len _) (by rw [bl_length, ByteArray.size_extract]; omega)
      obtain ⟨l0, hl0⟩ : ∃ l, lst (bl (s.extract 0 k)) = l := ⟨_, rfl⟩
      have HL0 := Lib.hid hl0
      rw [hl0] at hS hlen
      obtain ⟨b, hb⟩ : ∃ b, s[k] = b := ⟨_, rfl⟩
      have HB := Lib.hid hb
      have HZ := Lib.hid (ww_zero b)
      have HS := Lib.hid hS
      have HF := Lib.hid hF
      clear hl0 hb hS hF
      go_wp2_with fail
      go_loopw [3, 5] (fun v i vs => ∃ (j : Nat) (G : List Nat), i = .int .i64 j ∧ j ≤ 5 ∧ SV 3 1 sI vs v (l0 ++ ww b j) G ∧ (∀ b ∈ G, w.heap.size ≤ b) ∧ ∃ y, vs = ext w y) (fun _ i _ => 5 - (intOf i).toNat)
      case atStart => exact ⟨0, F, rfl, by omega, by rw [HZ.out, List.append_nil]; exact HS.out, HF.out, hy⟩
      case round =>
        obtain ⟨j, G, rfl, hj5, hG, hGF, hy2⟩ := hrel
        have HG := Lib.hid hG
        have HGF := Lib.hid hGF
        clear hGF
        by_cases hjl : j < 5
        · have hve := vname_eq (v := (j : Int)) hlt (by omega) (by omega)
          rw [HB.out] at hve
          by_cases hit : vix b = some (j : Int)
          · have q3 := str_beqt (hve.2 hit)
            have HV := Lib.hid (ww_hit hit)
            have hwl := ww_len b j
            have hll : (l0 ++ ww b j).length + 1 ≤ 2000000000 := by rw [List.length_append]; omega
            obtain ⟨A, c, rfl, _, _⟩ := hG.form
            clear hve hit hG hwl
            go_wp2_with fail
            refine wp_region_ext (by kernel_rfl) (by kernel_rfl) ?_
            repeat (go_big_quiet_step ((go_at_call 200; exact quietS (specVariableName_any _ _))))
            refine wpQuiet_nil ?_
            rintro _ ⟨z, rfl⟩
            go_wp2_with (at_builtin; refine wpList_app1 (E := sI) (d := (j : Int)) rfl _ _ _ rfl tI rfl rfl rfl (by simp) (fun _ => ⟨rfl, rfl⟩) rfl (by simp [Value.oneCell']) (HG.out.toExt ⟨z, rfl⟩) hll (by omega) ?_; intro v' w' F' hS' hC' hF')
            exact ⟨⟨j + 1, F', by go_num, by omega, by rw [HV.out, ← List.append_assoc]; exact hS', newer HGF.out (size_of_ext (trans_ext hy2 ⟨z, rfl⟩)) hF', hC'.isExt (trans_ext hy2 ⟨z, rfl⟩) HGF.out⟩, by simp [intOf]; omega⟩
          · have q3 := str_beqf (fun e => hit (hve.1 e))
            have HV := Lib.hid (ww_miss hit)
            clear hve hit hG
            go_wp2_with fail
            refine wp_region_ext (by kernel_rfl) (by kernel_rfl) ?_
            repeat (go_big_quiet_step ((go_at_call 200; exact quietS (specVariableName_any _ _))))
            refine wpQuiet_nil ?_
            rintro _ ⟨z, rfl⟩
            go_wp2
            exact ⟨⟨j + 1, G, by go_num, by omega, by rw [HV.out]; exact HG.out.toExt ⟨z, rfl⟩, HGF.out, trans_ext hy2 ⟨z, rfl⟩⟩, by simp [intOf]; omega⟩
        · obtain rfl : j = 5 := by omega
          have HV := Lib.hid (ww_five b)
          clear hG
          go_wp2
          exact ⟨⟨k + 1, G, by go_num, by omega, by rw [HL.out, HL0.out, HB.out, ← HV.out]; exact HG.out, HGF.out, hy2⟩, by simp [intOf]; omega⟩
    · obtain rfl : k = s.size := by omega
      have e : s.extract 0 s.size = s := by apply bl_inj; rw [ext_bs, bl_bs, List.drop_zero, List.take_of_length_le (by rw [bl_length]; omega)]
      rw [e] at hS
      clear e
      go_wp2
      go_ret
      exact ⟨_, F, rfl, hy, hS, hF⟩
end Go.Proofs.Ytfigcfajkilhiaa
namespace Go.Proofs.Ytfigcfajkilhiaa
open Go.RowKit
theorem isEmpty_yes {s : ByteArray} (h : s.size = 0) : s.toList.isEmpty = true := by
  rw [ByteArray.toList_eq, List.isEmpty_iff]
  apply List.eq_nil_of_length_eq_zero
  rw [Array.length_toList]
  exact h
theorem size_zero {s : ByteArray} (h : s.size = 0) : bl s = [] := List.eq_nil_of_length_eq_zero (by rw [bl_length]; exact h)
theorem RV.atS1 {w : World} {A : Option Addr} {xs : List ByteArray} {p : ByteArray} (h : RS w A xs) (h1 : 0 < xs.length) (hp : xs.getD 0 ⟨#[]⟩ = p) : ∃ b o, A = some ⟨b, o, none⟩ ∧ b < w.heap.size ∧ w.cell? ⟨b, o, none⟩ = some (.string p) := by
  obtain ⟨b, o, e, hb, hc⟩ := h.atS h1
  subst hp
  refine ⟨b, o, e, hb, ?_⟩
  rw [show xs.getD 0 ⟨#[]⟩ = xs[0] by simp [List.getD_eq_getElem?_getD, h1]]; exact hc
theorem l5Cut_m {s : ByteArray} (m : Int) (c : UInt8) {w : World} (hs : s.size ≤ 1000000000) (hm : (c.toNat : Int) = m) :
    Calls Try.prog 98 #[.string s, .int .u8 m] w fun e w' => ∃ v F, e = .returned v ∧ (∃ y, w' = ext w y) ∧ SV 9 1 sS w' v (splB c s) F ∧ ∀ b ∈ F, w.heap.size ≤ b := by
  subst hm
  exact l5Cut_any hs
end Go.Proofs.Ytfigcfajkilhiaa
namespace Go.Proofs.Ytfigcfajkilhiaa
open Go.RowKit
attribute [local go_sem ↓] Go.wp_at_zero Go.wp_at_succ
def zQ : Qd := (0, ([], []))
def PqRes (s : ByteArray) (w : World) (e : Ending) (w' : World) : Prop := ∃ v0 v1 v2 F, e = .returned (.tuple #[.agg #[v0, v1, v2], .bool (pQ s).isSome]) ∧ (∃ y, w' = ext w y) ∧ sQ w' [v0, v1, v2] ((pQ s).getD zQ) F ∧ F.Nodup ∧ ∀ b ∈ F, w.heap.size ≤ b
theorem zQ_own (w : World) : sQ w [.int .i64 0, .slice none 0 0, .slice none 0 0] zQ [] := by
  exact ⟨[.int .i64 0], [.slice none 0 0, .slice none 0 0], [], [], rfl, rfl, ⟨rfl, rfl⟩, ⟨[.slice none 0 0], [.slice none 0 0], [], [], rfl, rfl, ⟨_, rfl, SV.nil⟩, ⟨_, rfl, SV.nil⟩, rfl⟩, rfl⟩
end Go.Proofs.Ytfigcfajkilhiaa
