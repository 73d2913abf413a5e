/- Queries read from text: plain laws; the program's way and the reference's give the same. -/
import Derived.Test.YtedkmccfibaboaaPlJoin
import Derived.Test.YtedkmccfibaboaaFmtQ
namespace Go.Proofs.Ytedkmccfibaboaa
open Go.RowKit

/-- the number of a variable's name -/
def vix (b : UInt8) : Option Int := if b = 88 then some 0 else if b = 89 then some 1 else if b = 90 then some 2 else if b = 85 then some 3 else if b = 86 then some 4 else none
def pnG : List Int → List UInt8 → Option (List Int)
  | acc, [] => some acc
  | acc, b :: l => match vix b with
    | none => none
    | some v => pnG (acc ++ [v]) l
def pnB (s : ByteArray) : Bool := decide (2 ≤ s.size) && decide ((bl s).head? = some 40) && decide ((bl s).getLast? = some 41)
def pN (s : ByteArray) : Option (List Int) := if pnB s = true then pnG [] (((bl s).take (s.size - 1)).drop 1) else none
/-- the place of the first byte c -/
def ixc (c : UInt8) : List UInt8 → Nat
  | [] => 0
  | x :: xs => if x = c then 0 else ixc c xs + 1
def mxv (n : Int) (vs : List Int) : Int := vs.foldl (fun m v => max m (v + 1)) n
def pqG : Int → List At → List ByteArray → Option (Int × List At)
  | n, ats, [] => some (n, ats)
  | n, ats, w :: ws => match pN (w.extract (ixc 40 (bl w)) w.size) with
    | none => none
    | some vs => pqG (mxv n vs) (ats ++ [(w.extract 0 (ixc 40 (bl w)), vs)]) ws
def finQ (d : Qd) (s : ByteArray) : Option Qd := if fmtQ d = s ∧ s.size ≠ 0 then some d else none
def pQ (s : ByteArray) : Option Qd := match pN ((splB 61 s).getD 0 ⟨#[]⟩) with
  | none => none
  | some out => if (splB 61 s).length = 2 then (match pqG 0 [] (splB 44 ((splB 61 s).getD 1 ⟨#[]⟩)) with
    | none => none
    | some r => finQ (r.1, r.2, out) s) else none
def lst (l : List UInt8) : List Int := l.filterMap vix
def pqS : Int → List At → List ByteArray → Int × List At
  | n, ats, [] => (n, ats)
  | n, ats, w :: ws => pqS (mxv n (lst (bl w))) (ats ++ [((splB 40 w).getD 0 ⟨#[]⟩, lst (bl w))]) ws
def pQs (s : ByteArray) : Option Qd := if (splB 61 s).length = 2 then finQ ((pqS 0 [] (splB 44 ((splB 61 s).getD 1 ⟨#[]⟩))).1, (pqS 0 [] (splB 44 ((splB 61 s).getD 1 ⟨#[]⟩))).2, lst (bl ((splB 61 s).getD 0 ⟨#[]⟩))) s else none

theorem finQ_some {d q : Qd} {s : ByteArray} (h : finQ d s = some q) : d = q ∧ vqB q = true ∧ fmtQ q = s := by
  unfold finQ at h
  split at h
  · rename_i h1
    injection h with h
    subst h
    refine ⟨rfl, ?_, h1.1⟩
    cases hv : vqB d with
    | true => rfl
    | false =>
      refine absurd ?_ h1.2
      rw [← h1.1]
      unfold fmtQ
      rw [hv]
      rfl
  · cases h
theorem finQ_self {d : Qd} (h : vqB d = true) : finQ d (fmtQ d) = some d := by
  have hs : (fmtQ d).size ≠ 0 := by
    unfold fmtQ
    rw [if_pos h, ba_size, ba_size, ba_size, show (ByteArray.mk #[40]).size = 1 from rfl]
    omega
  unfold finQ
  rw [if_pos ⟨rfl, hs⟩]
theorem pQ_some {s : ByteArray} {d : Qd} (h : pQ s = some d) : vqB d = true ∧ fmtQ d = s := by
  unfold pQ at h
  split at h
  · cases h
  · split at h
    · split at h
      · cases h
      · exact (finQ_some h).2
    · cases h
theorem pQs_some {s : ByteArray} {d : Qd} (h : pQs s = some d) : vqB d = true ∧ fmtQ d = s := by
  unfold pQs at h
  split at h
  · exact (finQ_some h).2
  · cases h
/-! the text of a valid query -/
theorem vix_vname {v : Int} (h0 : 0 ≤ v) (h4 : v ≤ 4) : ∃ b, bl (vname v) = [b] ∧ vix b = some v ∧ b ≠ 40 ∧ b ≠ 44 ∧ b ≠ 61 := by
  have h : v = 0 ∨ v = 1 ∨ v = 2 ∨ v = 3 ∨ v = 4 := by omega
  rcases h with rfl | rfl | rfl | rfl | rfl
  · exact ⟨88, by decide, by decide, by decide, by decide, by decide⟩
  · exact ⟨89, by decide, by decide, by decide, by decide, by decide⟩
  · exact ⟨90, by decide, by decide, by decide, by decide, by decide⟩
  · exact ⟨85, by decide, by decide, by decide, by decide, by decide⟩
  · exact ⟨86, by decide, by decide, by decide, by decide, by decide⟩
theorem names_cons (v : Int) (l : List Int) : names (v :: l) = vname v ++ names l := by
  show nmG (⟨#[]⟩ ++ vname v) l = _
  rw [nil_ba, nmG_eq]
def In5 (l : List Int) : Prop := ∀ v ∈ l, 0 ≤ v ∧ v ≤ 4
theorem names_ne : ∀ {l : List Int}, In5 l → ∀ x ∈ bl (names l), x ≠ 40 ∧ x ≠ 44 ∧ x ≠ 61
  | [], _, x, hx => by simp [names, nmG, bl] at hx
  | v :: l, h, x, hx => by
    rw [names_cons, bl_app] at hx
    obtain ⟨b, e, _, n1, n2, n3⟩ := vix_vname (h v (by simp)).1 (h v (by simp)).2
    rcases List.mem_append.1 hx with hx | hx
    · rw [e] at hx
      rw [List.mem_singleton.1 hx]
      exact ⟨n1, n2, n3⟩
    · exact names_ne (fun u hu => h u (by simp [hu])) x hx
theorem pnG_names : ∀ {l : List Int}, In5 l → ∀ acc, pnG acc (bl (names l)) = some (acc ++ l)
  | [], _, acc => by simp [names, nmG, bl, pnG]
  | v :: l, h, acc => by
    obtain ⟨b, e, e2, _⟩ := vix_vname (h v (by simp)).1 (h v (by simp)).2
    rw [names_cons, bl_app, e, List.singleton_append, pnG, e2]
    simp only
    rw [pnG_names (fun u hu => h u (by simp [hu]))]
    simp
theorem lst_names : ∀ {l : List Int}, In5 l → lst (bl (names l)) = l
  | [], _ => by simp [names, nmG, bl, lst]
  | v :: l, h => by
    obtain ⟨b, e, e2, _⟩ := vix_vname (h v (by simp)).1 (h v (by simp)).2
    have := lst_names (l := l) (fun u hu => h u (by simp [hu]))
    unfold lst at this ⊢
    rw [names_cons, bl_app, e, List.singleton_append, List.filterMap_cons, e2, this]
theorem bl_par (l : List Int) : bl (par l) = 40 :: (bl (names l) ++ [41]) := by
  unfold par
  rw [bl_app, bl_app]
  rfl
theorem pN_par {l : List Int} (h : In5 l) : pN (par l) = some l := by
  have e := bl_par l
  have hs : (par l).size = (bl (names l)).length + 2 := by rw [← bl_length, e]; simp
  have hb : pnB (par l) = true := by
    unfold pnB
    rw [e, hs]
    rw [decide_eq_true (by omega), decide_eq_true (by rfl), decide_eq_true (by
      rw [← List.cons_append, List.getLast?_concat])]
    rfl
  unfold pN
  rw [if_pos hb, e, hs]
  rw [show (bl (names l)).length + 2 - 1 = (bl (names l)).length + 1 by omega, List.take_succ_cons, List.drop_succ_cons, List.drop_zero, List.take_left, pnG_names h]
  rfl
theorem lst_par {l : List Int} (h : In5 l) : lst (bl (par l)) = l := by
  rw [bl_par]
  have := lst_names h
  unfold lst at this ⊢
  rw [List.filterMap_cons, show vix 40 = none from rfl, List.filterMap_append, this]
  simp [vix]
theorem ixc_app {c : UInt8} : ∀ {p : List UInt8} (_ : ∀ x ∈ p, x ≠ c) (r : List UInt8), ixc c (p ++ c :: r) = p.length
  | [], _, r => by simp [ixc]
  | x :: p, h, r => by rw [List.cons_append, ixc, if_neg (h x (by simp)), ixc_app (fun y hy => h y (by simp [hy])) r]; rfl
theorem bl_atomT (x : At) : bl (atomT x) = bl x.1 ++ bl (par x.2) := by rw [← atomT_par, bl_app]
structure OkAt (x : At) : Prop where
  nm : nameB x.1 = true
  vs : In5 x.2
theorem nameB_let {s : ByteArray} (h : nameB s = true) : ∀ x ∈ bl s, letB x = true := by
  unfold nameB at h
  rw [Bool.and_eq_true, List.all_eq_true] at h
  exact h.2
theorem let_ne {x c : UInt8} (h : letB x = true) (hc : letB c = false) : x ≠ c := by
  rintro rfl
  rw [h] at hc
  cases hc
theorem vix_let {x : UInt8} (h : letB x = true) : vix x = none := by
  have h1 : x ≠ 88 := let_ne h (by decide)
  have h2 : x ≠ 89 := let_ne h (by decide)
  have h3 : x ≠ 90 := let_ne h (by decide)
  have h4 : x ≠ 85 := let_ne h (by decide)
  have h5 : x ≠ 86 := let_ne h (by decide)
  unfold vix
  rw [if_neg h1, if_neg h2, if_neg h3, if_neg h4, if_neg h5]
theorem ix_atomT {x : At} (h : OkAt x) : ixc 40 (bl (atomT x)) = x.1.size := by
  rw [bl_atomT, bl_par, ixc_app fun y hy => let_ne (nameB_let h.nm y hy) (by decide), bl_length]
theorem ext_atomT0 {x : At} : (atomT x).extract 0 x.1.size = x.1 := by
  apply bl_inj
  rw [ext_bs, bl_bs, bl_atomT, ← bl_length x.1, List.take_left]
  rfl
theorem ext_atomT1 {x : At} : (atomT x).extract x.1.size (atomT x).size = par x.2 := by
  apply bl_inj
  rw [ext_bs, bl_bs, ← bl_length (atomT x), List.take_length, bl_atomT, ← bl_length x.1, List.drop_left]
theorem spl_atomT {x : At} (h : OkAt x) : (splB 40 (atomT x)).getD 0 ⟨#[]⟩ = x.1 := by
  unfold splB
  rw [bl_atomT, bl_par, spl_two fun y hy => let_ne (nameB_let h.nm y hy) (by decide)]
  rfl
theorem filter_let : ∀ {l : List UInt8}, (∀ x ∈ l, letB x = true) → l.filterMap vix = []
  | [], _ => rfl
  | x :: l, h => by rw [List.filterMap_cons, vix_let (h x (by simp)), filter_let fun y hy => h y (by simp [hy])]
theorem lst_atomT {x : At} (h : OkAt x) : lst (bl (atomT x)) = x.2 := by
  have h1 := lst_par h.vs
  unfold lst at h1 ⊢
  rw [bl_atomT, List.filterMap_append, h1, filter_let (nameB_let h.nm)]
  rfl
theorem pqG_text : ∀ {ats : List At}, (∀ x ∈ ats, OkAt x) → ∀ n acc, pqG n acc (ats.map atomT) = some (mxv n (seen ats), acc ++ ats)
  | [], _, n, acc => by simp [pqG, mxv, seen]
  | x :: ats, h, n, acc => by
    have hx := h x (by simp)
    rw [List.map_cons, pqG, ix_atomT hx, ext_atomT0, ext_atomT1, pN_par hx.vs]
    simp only
    rw [pqG_text (fun y hy => h y (by simp [hy]))]
    simp [mxv, seen, List.foldl_append]
theorem pqS_text : ∀ {ats : List At}, (∀ x ∈ ats, OkAt x) → ∀ n acc, pqS n acc (ats.map atomT) = (mxv n (seen ats), acc ++ ats)
  | [], _, n, acc => by simp [pqS, mxv, seen]
  | x :: ats, h, n, acc => by
    have hx := h x (by simp)
    rw [List.map_cons, pqS, spl_atomT hx, lst_atomT hx, pqS_text (fun y hy => h y (by simp [hy]))]
    simp [mxv, seen, List.foldl_append]
theorem mxv_le : ∀ {l : List Int} {n N : Int}, n ≤ N → (∀ v ∈ l, v < N) → mxv n l ≤ N
  | [], n, N, h, _ => h
  | v :: l, n, N, h, h2 => mxv_le (l := l) (n := max n (v + 1)) (by have := h2 v (by simp); omega) (fun u hu => h2 u (by simp [hu]))
theorem mxv_ge : ∀ {l : List Int} {n : Int}, n ≤ mxv n l ∧ ∀ v ∈ l, v + 1 ≤ mxv n l
  | [], n => ⟨Int.le_refl _, by simp⟩
  | v :: l, n => by
    obtain ⟨h1, h2⟩ := mxv_ge (l := l) (n := max n (v + 1))
    have e : mxv n (v :: l) = mxv (max n (v + 1)) l := rfl
    rw [e]
    refine ⟨by omega, fun u hu => ?_⟩
    rcases List.mem_cons.1 hu with rfl | hu
    · omega
    · exact h2 u hu
structure OkQ (d : Qd) : Prop where
  out : In5 d.2.2
  ats : ∀ x ∈ d.2.1, OkAt x
  ne : d.2.1 ≠ []
  cnt : mxv 0 (seen d.2.1) = d.1
theorem vqB_ok {d : Qd} (h : vqB d = true) : OkQ d := by
  unfold vqB at h
  simp only [Bool.and_eq_true, List.all_eq_true] at h
  obtain ⟨⟨⟨⟨h1, h2⟩, h3⟩, h4⟩, h5⟩ := h
  have b1 := inB_t h1
  have b2 := inB_t h2
  have h3 := (setB_sound h3).1
  have ha : ∀ x ∈ d.2.1, OkAt x ∧ ∀ v ∈ x.2, 0 ≤ v ∧ v < d.1 := by
    intro x hx
    have := h4 x hx
    unfold atomB at this
    simp only [Bool.and_eq_true, List.all_eq_true] at this
    obtain ⟨⟨k1, k2⟩, k3⟩ := this
    have k4 : ∀ v ∈ x.2, 0 ≤ v ∧ v < d.1 := fun v hv => by have := inB_t (k3 v hv); omega
    exact ⟨⟨k1, fun v hv => by have := k4 v hv; omega⟩, k4⟩
  refine ⟨fun v hv => by have := h3 v hv; omega, fun x hx => (ha x hx).1, ?_, ?_⟩
  · intro e
    rw [e] at b2
    simp at b2
  · have hlt : ∀ v ∈ seen d.2.1, v < d.1 := by
      intro v hv
      unfold seen at hv
      obtain ⟨x, hx, hv⟩ := List.mem_flatMap.1 hv
      exact ((ha x hx).2 v hv).2
    have hle := mxv_le (n := 0) (N := d.1) (by omega) hlt
    have hmem : d.1 - 1 ∈ seen d.2.1 := by
      unfold coverB mkU at h5
      rw [List.all_eq_true] at h5
      have := h5 (decide (((d.1 - 1).toNat : Int) ∈ seen d.2.1)) (List.mem_map.2 ⟨(d.1 - 1).toNat, List.mem_range.2 (by omega), rfl⟩)
      have := of_decide_eq_true this
      rwa [Int.toNat_of_nonneg (by omega)] at this
    have := (mxv_ge (n := 0)).2 _ hmem
    omega
theorem bl_fmtQ {d : Qd} (h : vqB d = true) : bl (fmtQ d) = bl (par d.2.2) ++ 61 :: jl 44 ((d.2.1.map atomT).map bl) := by
  rw [← fmtQ_par h, joinF_acc, bl_app, bl_app, joinF_jl]
  simp only [List.append_assoc]
  rfl
theorem par_ne {l : List Int} (h : In5 l) : ∀ x ∈ bl (par l), x ≠ 44 ∧ x ≠ 61 := by
  intro x hx
  rw [bl_par] at hx
  rcases List.mem_cons.1 hx with rfl | hx
  · decide
  · rcases List.mem_append.1 hx with hx | hx
    · exact (names_ne h x hx).2
    · rw [List.mem_singleton.1 hx]; decide
theorem atomT_ne {x : At} (h : OkAt x) : ∀ y ∈ bl (atomT x), y ≠ 44 ∧ y ≠ 61 := by
  intro y hy
  rw [bl_atomT] at hy
  rcases List.mem_append.1 hy with hy | hy
  · exact ⟨let_ne (nameB_let h.nm y hy) (by decide), let_ne (nameB_let h.nm y hy) (by decide)⟩
  · exact par_ne h.vs y hy
theorem jl_mem {c y : UInt8} : ∀ {ps : List (List UInt8)}, y ∈ jl c ps → y = c ∨ ∃ p ∈ ps, y ∈ p
  | [], h => by simp [jl] at h
  | [p], h => .inr ⟨p, by simp, by simpa [jl] using h⟩
  | p :: q :: ps, h => by
    rw [jl] at h
    rcases List.mem_append.1 h with h | h
    · exact .inr ⟨p, by simp, h⟩
    · rcases List.mem_cons.1 h with h | h
      · exact .inl h
      · rcases jl_mem (ps := q :: ps) h with h | ⟨r, hr, h⟩
        · exact .inl h
        · exact .inr ⟨r, List.mem_cons_of_mem _ hr, h⟩
theorem spl_fmtQ {d : Qd} (h : vqB d = true) : splB 61 (fmtQ d) = [par d.2.2, joinF ⟨#[44]⟩ 0 ⟨#[]⟩ (d.2.1.map atomT)] := by
  have ok := vqB_ok h
  have h2 : ∀ y ∈ jl 44 ((d.2.1.map atomT).map bl), y ≠ 61 := by
    intro y hy
    rcases jl_mem hy with e | ⟨p, hp, hy⟩
    · subst e; decide
    · simp only [List.map_map, List.mem_map] at hp
      obtain ⟨x, hx, rfl⟩ := hp
      exact (atomT_ne (ok.ats x hx) y hy).2
  unfold splB
  rw [bl_fmtQ h, spl_two (fun y hy => (par_ne ok.out y hy).2), spl_none h2, List.map_cons, List.map_cons, List.map_nil, ← joinF_jl]
  rfl
theorem spl_atoms {d : Qd} (h : vqB d = true) : splB 44 (joinF ⟨#[44]⟩ 0 ⟨#[]⟩ (d.2.1.map atomT)) = d.2.1.map atomT := by
  have ok := vqB_ok h
  refine splB_joinF (by simpa using ok.ne) fun p hp y hy => ?_
  obtain ⟨x, hx, rfl⟩ := List.mem_map.1 hp
  exact (atomT_ne (ok.ats x hx) y hy).1
theorem pQ_text {d : Qd} (h : vqB d = true) : pQ (fmtQ d) = some d := by
  have ok := vqB_ok h
  unfold pQ
  rw [spl_fmtQ h]
  simp only [List.getD_cons_zero, List.getD_cons_succ, List.length_cons, List.length_nil, pN_par ok.out, spl_atoms h, pqG_text ok.ats, List.nil_append, ok.cnt, if_true]
  exact finQ_self h
theorem pQs_text {d : Qd} (h : vqB d = true) : pQs (fmtQ d) = some d := by
  have ok := vqB_ok h
  unfold pQs
  rw [spl_fmtQ h]
  simp only [List.getD_cons_zero, List.getD_cons_succ, List.length_cons, List.length_nil, lst_par ok.out, spl_atoms h, pqS_text ok.ats, List.nil_append, ok.cnt, if_true]
  exact finQ_self h
theorem pQs_eq (s : ByteArray) : pQs s = pQ s := by
  cases h : pQ s with
  | some r =>
    obtain ⟨h1, rfl⟩ := pQ_some h
    exact pQs_text h1
  | none =>
    cases h2 : pQs s with
    | none => rfl
    | some r =>
      obtain ⟨h1, rfl⟩ := pQs_some h2
      rw [pQ_text h1] at h
      cases h
end Go.Proofs.Ytedkmccfibaboaa
