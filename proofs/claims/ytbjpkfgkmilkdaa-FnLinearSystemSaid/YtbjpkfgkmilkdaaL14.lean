/- Contracts of functions that the statement reaches. -/
import Derived.Test.YtbjpkfgkmilkdaaL04
import Derived.Test.YtbjpkfgkmilkdaaL01
import Derived.Test.YtbjpkfgkmilkdaaL03
import Derived.Test.YtbjpkfgkmilkdaaL13
namespace Go.Proofs.Ytbjpkfgkmilkdaa
def rq (p : Q2) : Rat := (p.1 : Rat) / (p.2 : Rat)
theorem den_ne {p : Q2} (h : isVR p = true) : ((p.2 : Int) : Rat) ≠ 0 := by
  have := isVR_t h
  intro e
  have : p.2 = 0 := by exact_mod_cast e
  omega
theorem cast_ne {d : Int} (h : d ≠ 0) : ((d : Int) : Rat) ≠ 0 := by
  intro e
  exact h (by exact_mod_cast e)
theorem div_eq {a b c d : Rat} (hb : b ≠ 0) (hd : d ≠ 0) (h : a * d = c * b) : a / b = c / d := by
  grind
theorem rq_gcd {n d : Int} (h : d ≠ 0) : ((n.tdiv (Int.gcd n d) : Int) : Rat) / ((d.tdiv (Int.gcd n d) : Int) : Rat) = (n : Rat) / (d : Rat) := by
  have hg : (Int.gcd n d : Int) ≠ 0 := by
    have := Int.gcd_pos_of_ne_zero_right n h
    omega
  obtain ⟨a, ha⟩ : (Int.gcd n d : Int) ∣ n := Int.gcd_dvd_left n d
  obtain ⟨b, hb⟩ : (Int.gcd n d : Int) ∣ d := Int.gcd_dvd_right n d
  generalize hG : (Int.gcd n d : Int) = g at *
  have e1 : n.tdiv g = a := by rw [ha, Int.mul_tdiv_cancel_left _ hg]
  have e2 : d.tdiv g = b := by rw [hb, Int.mul_tdiv_cancel_left _ hg]
  rw [e1, e2]
  have hb0 : b ≠ 0 := by intro e; subst e; simp at hb; exact h hb
  refine div_eq (cast_ne hb0) (cast_ne h) ?_
  rw [ha, hb]
  push_cast
  grind
theorem newR_rq {n d : Int} {r : Q2} (h : newR n d = some r) : d ≠ 0 ∧ rq r = (n : Rat) / (d : Rat) := by
  unfold newR at h
  split at h
  · cases h
  · rename_i h0
    have hd : d ≠ 0 := fun e => h0 (.inl e)
    refine ⟨hd, ?_⟩
    have hk := rq_gcd (n := n) hd
    split at h
    · split at h
      · injection h with h
        rw [← h]
        unfold rq
        rw [← hk]
        push_cast
        grind
      · cases h
    · split at h
      · injection h with h
        rw [← h]
        exact hk
      · cases h
theorem mulR_rq {a b r : Q2} (h : mulR a b = some r) : rq r = rq a * rq b ∧ isVR a = true ∧ isVR b = true ∧ isVR r = true := by
  unfold mulR at h
  split at h
  · rename_i hv
    rw [Bool.and_eq_true] at hv
    obtain ⟨_, e⟩ := newR_rq h
    have h1 := den_ne hv.1
    have h2 := den_ne hv.2
    refine ⟨?_, hv.1, hv.2, newR_valid h⟩
    rw [e]
    unfold rq
    push_cast
    grind
  · cases h
theorem addR_rq {a b r : Q2} (h : addR a b = some r) : rq r = rq a + rq b ∧ isVR a = true ∧ isVR b = true ∧ isVR r = true := by
  unfold addR at h
  split at h
  · rename_i hv
    rw [Bool.and_eq_true] at hv
    obtain ⟨_, e⟩ := newR_rq h
    have h1 := den_ne hv.1
    have h2 := den_ne hv.2
    refine ⟨?_, hv.1, hv.2, newR_valid h⟩
    rw [e]
    unfold rq
    push_cast
    grind
  · cases h
theorem subR_rq {a b r : Q2} (h : subR a b = some r) : rq r = rq a - rq b ∧ isVR r = true := by
  unfold subR at h
  split at h
  · obtain ⟨e, _, hb, hr⟩ := addR_rq h
    have h2 := den_ne hb
    refine ⟨?_, hr⟩
    rw [e]
    unfold rq
    simp only at h2
    push_cast
    grind
  · cases h
theorem divR_rq {a b r : Q2} (h : divR a b = some r) : rq r * rq b = rq a ∧ rq b ≠ 0 ∧ isVR a = true ∧ isVR b = true ∧ isVR r = true := by
  unfold divR at h
  split at h
  · rename_i hv
    rw [Bool.and_eq_true] at hv
    obtain ⟨hd, e⟩ := newR_rq h
    have h1 := den_ne hv.1
    have h2 := den_ne hv.2
    have hb : b.1 ≠ 0 := fun e => hd (by rw [e, Int.mul_zero])
    have h3 := cast_ne hb
    refine ⟨?_, ?_, hv.1, hv.2, newR_valid h⟩
    · rw [e]
      unfold rq
      push_cast
      grind
    · unfold rq
      grind
  · cases h
theorem rq_zero {p : Q2} (h : p.1 = 0) : rq p = 0 := by
  unfold rq
  rw [h]
  grind
theorem idvd_of_gcd {k m n : Int} (h : k ∣ m * n) (hg : Int.gcd k m = 1) : k ∣ n := by
  have h1 : k.natAbs ∣ m.natAbs * n.natAbs := by rw [← Int.natAbs_mul]; exact Int.natAbs_dvd_natAbs.2 h
  exact Int.natAbs_dvd_natAbs.1 (Nat.Coprime.dvd_of_dvd_mul_left (show Nat.Coprime k.natAbs m.natAbs from hg) h1)
theorem rq_inj {p r : Q2} (hp : isVR p = true) (hr : isVR r = true) (h : rq p = rq r) : p = r := by
  obtain ⟨p1, p2, _, _, pg⟩ := isVR_t hp
  obtain ⟨r1, r2, _, _, rg⟩ := isVR_t hr
  have h1 := den_ne hp
  have h2 := den_ne hr
  have e : ((p.1 : Int) : Rat) * r.2 = r.1 * p.2 := by
    unfold rq at h
    grind
  have e2 : p.1 * r.2 = r.1 * p.2 := by exact_mod_cast e
  have d1 : p.2 ∣ r.2 := by
    have : p.2 ∣ p.1 * r.2 := ⟨r.1, by rw [e2, Int.mul_comm]⟩
    exact idvd_of_gcd this (by rw [Int.gcd_comm]; exact pg)
  have d2 : r.2 ∣ p.2 := by
    have : r.2 ∣ r.1 * p.2 := ⟨p.1, by rw [← e2, Int.mul_comm]⟩
    exact idvd_of_gcd this (by rw [Int.gcd_comm]; exact rg)
  have e3 : p.2 = r.2 := Int.dvd_antisymm (by omega) (by omega) d1 d2
  have e4 : p.1 = r.1 := by
    rw [e3] at e2
    exact Int.eq_of_mul_eq_mul_right (by omega) e2
  exact Prod.ext e4 e3
end Go.Proofs.Ytbjpkfgkmilkdaa
namespace Go.Proofs.Ytbjpkfgkmilkdaa
def sumQ (f : Nat → Rat) : Nat → Rat
  | 0 => 0
  | n + 1 => sumQ f n + f n
theorem sumQ_congr {f g : Nat → Rat} : ∀ {n : Nat}, (∀ j, j < n → f j = g j) → sumQ f n = sumQ g n
  | 0, _ => rfl
  | n + 1, h => by rw [sumQ, sumQ, sumQ_congr fun j hj => h j (by omega), h n (by omega)]
theorem sumQ_add {f g : Nat → Rat} {c : Rat} : ∀ (n : Nat), sumQ (fun j => f j + c * g j) n = sumQ f n + c * sumQ g n
  | 0 => by simp [sumQ]; grind
  | n + 1 => by
    rw [sumQ, sumQ, sumQ, sumQ_add n]
    grind
theorem sumQ_zero {f : Nat → Rat} : ∀ {n : Nat}, (∀ j, j < n → f j = 0) → sumQ f n = 0
  | 0, _ => rfl
  | n + 1, h => by
    rw [sumQ, sumQ_zero fun j hj => h j (by omega), h n (by omega)]
    grind
theorem sumQ_one {f : Nat → Rat} {i : Nat} : ∀ {n : Nat}, i < n → (∀ j, j < n → j ≠ i → f j = 0) → sumQ f n = f i
  | 0, h, _ => absurd h (by omega)
  | n + 1, h, k => by
    rw [sumQ]
    by_cases e : i = n
    · subst e
      rw [sumQ_zero fun j hj => k j (by omega) (by omega)]
      grind
    · rw [sumQ_one (i := i) (by omega) fun j hj hne => k j (by omega) hne, k n (by omega) (by omega)]
      grind
def Sat (n : Nat) (x : Nat → Rat) (r : List Q2) : Prop := sumQ (fun j => rq (gq r j) * x j) n = rq (gq r n)
theorem gq_set {r : List Q2} {k j : Nat} {y : Q2} : gq (r.set k y) j = if k = j ∧ k < r.length then y else gq r j := by
  unfold gq
  simp only [List.getD_eq_getElem?_getD, List.getElem?_set]
  by_cases h : k = j
  · subst h
    by_cases h2 : k < r.length
    · simp [h2]
    · simp [h2]
  · simp [h]
theorem gr_set {m : List (List Q2)} {k j : Nat} {y : List Q2} : gr (m.set k y) j = if k = j ∧ k < m.length then y else gr m j := by
  unfold gr
  simp only [List.getD_eq_getElem?_getD, List.getElem?_set]
  by_cases h : k = j
  · subst h
    by_cases h2 : k < m.length
    · simp [h2]
    · simp [h2]
  · simp [h]
theorem elimS_ok {f : Q2} {piv : List Q2} : ∀ {j k : Nat} {cur r : List Q2}, elimS f piv j k cur = some r → k + j ≤ cur.length → (∀ i, (i < k ∨ k + j ≤ i) → gq r i = gq cur i) ∧ ∀ i, k ≤ i → i < k + j → rq (gq r i) = rq (gq cur i) - rq f * rq (gq piv i)
  | 0, k, cur, r, h, _ => by
    rw [elimS] at h
    injection h with h
    subst h
    exact ⟨fun i _ => rfl, fun i h1 h2 => absurd h1 (by omega)⟩
  | j + 1, k, cur, r, h, hl => by
    rw [elimS] at h
    split at h
    · cases h
    · rename_i x hx
      split at h
      · cases h
      · rename_i y hy
        obtain ⟨h1, h2⟩ := elimS_ok h (by simp; omega)
        have e1 := (mulR_rq hx).1
        have e2 := (subR_rq hy).1
        refine ⟨fun i hi => ?_, fun i hi1 hi2 => ?_⟩
        · rw [h1 i (by omega), gq_set, if_neg (by omega)]
        · by_cases e : i = k
          · subst e
            rw [h1 i (by omega), gq_set, if_pos (by omega), e2, e1]
          · rw [h2 i (by omega) (by omega), gq_set, if_neg (by omega)]
theorem elimR_ok {p n : Nat} {piv row r : List Q2} (h : elimR p piv row = some r) (hl : row.length = n + 1) (hp : p ≤ n) :
    (∀ j, j < p → gq r j = gq row j) ∧ ∃ f : Rat, f * rq (gq piv p) = rq (gq row p) ∧ ∀ j, p ≤ j → j ≤ n → rq (gq r j) = rq (gq row j) - f * rq (gq piv j) := by
  unfold elimR elimO at h
  split at h
  · cases h
  · rename_i f hf
    obtain ⟨h1, h2⟩ := elimS_ok h (by omega)
    exact ⟨fun j hj => h1 j (by omega), rq f, (divR_rq hf).1, fun j hj1 hj2 => h2 j hj1 (by omega)⟩
theorem elimR_sat {p n : Nat} {piv row r : List Q2} {x : Nat → Rat} (h : elimR p piv row = some r) (hl : row.length = n + 1) (hp : p ≤ n) (hz : ∀ c, c < p → rq (gq piv c) = 0) (hr : Sat n x r) (hpv : Sat n x piv) : Sat n x row := by
  obtain ⟨h1, f, _, h2⟩ := elimR_ok h hl hp
  have key : ∀ j, j ≤ n → rq (gq row j) = rq (gq r j) + f * rq (gq piv j) := fun j hj => by
    by_cases e : j < p
    · rw [h1 j e, hz j e]; grind
    · rw [h2 j (by omega) hj]; grind
  unfold Sat at *
  rw [key n (by omega), ← hr, ← hpv, ← sumQ_add]
  exact sumQ_congr fun j hj => by rw [key j (by omega)]; grind
def Diag (p n : Nat) (m : List (List Q2)) : Prop := ∀ c, c < p → ∀ i, i < n → i ≠ c → rq (gq (gr m i) c) = 0
theorem stepS_ok {p n : Nat} (hp : p < n) : ∀ {j i : Nat} {m m' : List (List Q2)}, stepS p j i m = some m' → i + j = n → m.length = n → (∀ k, k < n → (gr m k).length = n + 1) →
    m'.length = n ∧ (∀ k, k < n → (gr m' k).length = n + 1) ∧ (∀ k, k < i → gr m' k = gr m k) ∧ gr m' p = gr m p ∧ (∀ k c, c < p → gq (gr m' k) c = gq (gr m k) c) ∧ (∀ k, i ≤ k → k < n → k ≠ p → rq (gq (gr m' k) p) = 0) ∧
      ∀ x, (∀ c, c < p → rq (gq (gr m p) c) = 0) → (∀ k, k < n → Sat n x (gr m' k)) → ∀ k, k < n → Sat n x (gr m k)
  | 0, i, m, m', h, hij, hm, hr => by
    rw [stepS] at h
    injection h with h
    subst h
    exact ⟨hm, hr, fun _ _ => rfl, rfl, fun _ _ _ => rfl, fun k h1 h2 => absurd h1 (by omega), fun x _ h => h⟩
  | j + 1, i, m, m', h, hij, hm, hr => by
    rw [stepS] at h
    split at h
    · rename_i hc
      obtain ⟨a1, a2, a3, a4, a5, a6, a7⟩ := stepS_ok hp h (by omega) hm hr
      refine ⟨a1, a2, fun k hk => a3 k (by omega), a4, a5, fun k h1 h2 h3 => ?_, a7⟩
      by_cases e : k = i
      · subst e
        rw [a3 k (by omega)]
        exact rq_zero (hc.resolve_left h3)
      · exact a6 k (by omega) h2 h3
    · rename_i hc
      split at h
      · cases h
      · rename_i r hr1
        have hip : i ≠ p := fun e => hc (.inl e)
        have hl := elimR_len hr1
        rw [hr i (by omega)] at hl
        have gs : ∀ k, gr (m.set i r) k = if i = k then r else gr m k := fun k => by
          rw [gr_set]
          by_cases e : i = k
          · rw [if_pos ⟨e, by omega⟩, if_pos e]
          · rw [if_neg (fun h => e h.1), if_neg e]
        obtain ⟨a1, a2, a3, a4, a5, a6, a7⟩ := stepS_ok hp h (by omega) (by simpa using hm) (fun k hk => by
          rw [gs k]
          split
          · exact hl
          · exact hr k hk)
        obtain ⟨b1, f, b2, b3⟩ := elimR_ok hr1 (hr i (by omega)) (by omega)
        have gp : gr (m.set i r) p = gr m p := by rw [gs p, if_neg hip]
        refine ⟨a1, a2, fun k hk => ?_, by rw [a4, gp], fun k c hc => ?_, fun k h1 h2 h3 => ?_, fun x hz hs k hk => ?_⟩
        · rw [a3 k (by omega), gs k, if_neg (by omega)]
        · rw [a5 k c hc, gs k]
          split
          · rename_i e; subst e; exact b1 c hc
          · rfl
        · by_cases e : k = i
          · subst e
            rw [a3 k (by omega), gs k, if_pos rfl, b3 p (Nat.le_refl _) (by omega), ← b2]
            grind
          · exact a6 k (by omega) h2 h3
        · have hs2 := a7 x (by rw [gp]; exact hz) hs
          by_cases e : k = i
          · subst e
            have h5 := hs2 k hk
            rw [gs k, if_pos rfl] at h5
            have h6 := hs2 p hp
            rw [gp] at h6
            exact elimR_sat hr1 (hr k hk) (by omega) hz h5 h6
          · have h5 := hs2 k hk
            rwa [gs k, if_neg (fun h => e h.symm)] at h5
end Go.Proofs.Ytbjpkfgkmilkdaa
namespace Go.Proofs.Ytbjpkfgkmilkdaa
open Go.RowKit
def dotG : Int × Int → List (Int × Int) → List (Int × Int) → Option (Int × Int)
  | a, x :: xs, y :: ys => match mulR x y with
    | none => none
    | some p => match addR a p with
      | none => none
      | some s => dotG s xs ys
  | a, _, _ => some a
def dotR (xs ys : List (Int × Int)) : Option (Int × Int) := if xs.length = ys.length then dotG (0, 1) xs ys else none
theorem dotG_some {a p s : Int × Int} {xs ys : List (Int × Int)} {k : Nat} (h : k < xs.length) (h' : k < ys.length) (e : mulR xs[k] ys[k] = some p) (e' : addR a p = some s) : dotG a (xs.drop k) (ys.drop k) = dotG s (xs.drop (k + 1)) (ys.drop (k + 1)) := by
  rw [List.drop_eq_getElem_cons h, List.drop_eq_getElem_cons h', dotG, e]
  simp only
  rw [e']
theorem dotG_none {a : Int × Int} {xs ys : List (Int × Int)} {k : Nat} (h : k < xs.length) (h' : k < ys.length) (e : mulR xs[k] ys[k] = none) : dotG a (xs.drop k) (ys.drop k) = none := by
  rw [List.drop_eq_getElem_cons h, List.drop_eq_getElem_cons h', dotG, e]
theorem dotG_none' {a p : Int × Int} {xs ys : List (Int × Int)} {k : Nat} (h : k < xs.length) (h' : k < ys.length) (e : mulR xs[k] ys[k] = some p) (e' : addR a p = none) : dotG a (xs.drop k) (ys.drop k) = none := by
  rw [List.drop_eq_getElem_cons h, List.drop_eq_getElem_cons h', dotG, e]
  simp only
  rw [e']
theorem dotG_end {a : Int × Int} {xs ys : List (Int × Int)} {k : Nat} (h : ¬ k < xs.length) : dotG a (xs.drop k) (ys.drop k) = some a := by
  rw [List.drop_eq_nil_of_le (by omega)]
  cases ys.drop k <;> rfl
set_option maxHeartbeats 2000000 in
theorem DotProduct_any {A A' : Option Addr} {c c' : Nat} {xs ys : List (Int × Int)} {w : World} (hx : xs.length ≤ 1000000000) (h1 : RR w A xs) (_hy : ys.length ≤ 1000000000) (h2 : RR w A' ys) :
    Calls Try.prog 58 #[.slice A xs.length c, .slice A' ys.length c'] w fun e w' => e = .returned (.tuple #[.agg #[.int .i64 ((dotR xs ys).getD (0, 0)).1, .int .i64 ((dotR xs ys).getD (0, 0)).2], .bool (dotR xs ys).isSome]) ∧ ∃ y, w' = ext w y := by
  by_cases hl : xs.length = ys.length
  · have hn : ((xs.length : Int) != (ys.length : Int)) = false := by simp [hl]
    have hl2 : ys.length ≤ xs.length := by omega
    have hl3 : xs.length ≤ ys.length := by omega
    rw [show dotR xs ys = dotG (0, 1) xs ys by unfold dotR; rw [if_pos hl]]
    clear hl
    go_enter Try.func58, Try.ntmps58
    go_wp2
    go_loopw [21] (fun i wr => ∃ (k : Nat) (a : Int × Int), i = .int .i64 k ∧ k ≤ xs.length ∧ BoxAt wr w.heap.size #[.int .i64 0, .int .i64 0] ∧ BoxAt wr (w.heap.size + 1) #[.int .i64 a.1, .int .i64 a.2] ∧ (∃ y, wr = ext w y) ∧ dotG a (xs.drop k) (ys.drop k) = dotG (0, 1) xs ys) (fun i _ => xs.length - (intOf i).toNat)
    case atStart => exact ⟨0, (0, 1), rfl, by omega, (BoxAt.new _ _ _).alloc _, by simpa using BoxAt.new (w.alloc _) #[.int .i64 0, .int .i64 1] 67, (by refine x'z ?_; repeat (with_reducible (first | exact x'a _ _ | exact x'b _ | exact x'c (by assumption) | refine x'd ?_ (by assumption) | refine x'e ?_ _ | refine x'f ?_ _ | refine x'g ?_ | refine x'h ?_ ?_ _ | refine x'i ?_ _ | refine x'j ?_ | refine x'k ?_ _ | refine x'l ?_ _ _ | refine x'm ?_ | assumption | (refine x'n ?_; omega) | omega))), by simp⟩
    case round =>
      obtain ⟨k, a, rfl, hk, B0, B1, hy, hj⟩ := hrel
      have Hj := Lib.hid hj
      clear hj
      obtain ⟨_, l0, b0, b0', f0⟩ := box2 B0
      obtain ⟨_, l1, b1, b1', f1⟩ := box2 B1
      have h1' := h1.toExt hy
      have h2' := h2.toExt hy
      by_cases hlt : k < xs.length
      · have hlt2 : k < ys.length := by omega
        obtain ⟨b, o, rfl, hb, hc, hd⟩ := h1'.atR hlt
        obtain ⟨b', o', rfl, hb', hc', hd'⟩ := h2'.atR hlt2
        cases hm : mulR xs[k] ys[k] with
        | none =>
          have Hm := Lib.hid hm
          clear hm
          have He := Lib.hid (show none = dotG (0, 1) xs ys by rw [← Hj.out, dotG_none hlt hlt2 Hm.out])
          go_wp2_with fail
          go_region_held3 (fun w' => (∀ a : Addr, a.block < wr.heap.size → w'.cell? a = wr.cell? a) ∧ ∃ y, w' = ext wr y) (first | exact heldE (by refine x'z ?_; repeat (with_reducible (first | exact x'a _ _ | exact x'b _ | exact x'c (by assumption) | refine x'd ?_ (by assumption) | refine x'e ?_ _ | refine x'f ?_ _ | refine x'g ?_ | refine x'h ?_ ?_ _ | refine x'i ?_ _ | refine x'j ?_ | refine x'k ?_ _ | refine x'l ?_ _ _ | refine x'm ?_ | assumption | (refine x'n ?_; omega) | omega)))) (first | (go_at_call 92; refine MulRational_any.mono ?_; rintro e w2 ⟨rfl, hx2⟩; rw [Hm.out]; have B2 := B0.toExt (trans_ext (by repeat (with_reducible (first | exact refl_ext _ | exact alloc_ext _ _ | exact drew_ext _ | assumption | refine trans_ext ?_ (drew_ext _) | refine trans_ext ?_ (alloc_ext _ _) | refine trans_ext ?_ (by assumption)))) hx2); have B3 := B1.toExt (trans_ext (by repeat (with_reducible (first | exact refl_ext _ | exact alloc_ext _ _ | exact drew_ext _ | assumption | refine trans_ext ?_ (drew_ext _) | refine trans_ext ?_ (alloc_ext _ _) | refine trans_ext ?_ (by assumption)))) hx2); obtain ⟨_, l2, b2, b2', f2⟩ := box2 B2; obtain ⟨_, l3, b3, b3', f3⟩ := box2 B3; try (obtain ⟨_, l4, b4, b4', f4⟩ := box2 (BoxAt.toExt (BoxAt.new wr _ _).drew hx2))))
          all_goals
            go_wp2_with (go_at_call 99; refine AddRational_any.mono ?_; rintro e w3 ⟨rfl, hx3⟩; have C0 : BoxAt w3 w.heap.size #[.int .i64 0, .int .i64 0] := (by repeat (with_reducible (first | assumption | exact BoxAt.new _ _ _ | apply BoxAt.set2 | refine BoxAt.set2' ?_ (by omega) | apply BoxAt.setP0 | apply BoxAt.setP1 | refine BoxAt.setO ?_ (by omega) | refine BoxAt.alloc ?_ _ | refine BoxAt.drew ?_ | refine BoxAt.toExt ?_ (by assumption)))); obtain ⟨_, m2, d2, d2', g2⟩ := box2 C0)
            exact bodyPost_ret (v := .tuple #[.agg #[.int .i64 0, .int .i64 0], .bool false]) (by simp [results, Try.results58, go_sem, d2, d2', m2]) rfl ⟨by rw [← He.out]; rfl, (by refine x'z ?_; repeat (with_reducible (first | exact x'a _ _ | exact x'b _ | exact x'c (by assumption) | refine x'd ?_ (by assumption) | refine x'e ?_ _ | refine x'f ?_ _ | refine x'g ?_ | refine x'h ?_ ?_ _ | refine x'i ?_ _ | refine x'j ?_ | refine x'k ?_ _ | refine x'l ?_ _ _ | refine x'm ?_ | assumption | (refine x'n ?_; omega) | omega)))⟩
        | some p =>
          have Hm := Lib.hid hm
          clear hm
          cases hs : addR a p with
          | none =>
            have Hs := Lib.hid hs
            clear hs
            have He := Lib.hid (show none = dotG (0, 1) xs ys by rw [← Hj.out, dotG_none' hlt hlt2 Hm.out Hs.out])
            go_wp2_with fail
            go_region_held3 (fun w' => (∀ a : Addr, a.block < wr.heap.size → w'.cell? a = wr.cell? a) ∧ ∃ y, w' = ext wr y) (first | exact heldE (by refine x'z ?_; repeat (with_reducible (first | exact x'a _ _ | exact x'b _ | exact x'c (by assumption) | refine x'd ?_ (by assumption) | refine x'e ?_ _ | refine x'f ?_ _ | refine x'g ?_ | refine x'h ?_ ?_ _ | refine x'i ?_ _ | refine x'j ?_ | refine x'k ?_ _ | refine x'l ?_ _ _ | refine x'm ?_ | assumption | (refine x'n ?_; omega) | omega)))) (first | (go_at_call 92; refine MulRational_any.mono ?_; rintro e w2 ⟨rfl, hx2⟩; rw [Hm.out]; have B2 := B0.toExt (trans_ext (by repeat (with_reducible (first | exact refl_ext _ | exact alloc_ext _ _ | exact drew_ext _ | assumption | refine trans_ext ?_ (drew_ext _) | refine trans_ext ?_ (alloc_ext _ _) | refine trans_ext ?_ (by assumption)))) hx2); have B3 := B1.toExt (trans_ext (by repeat (with_reducible (first | exact refl_ext _ | exact alloc_ext _ _ | exact drew_ext _ | assumption | refine trans_ext ?_ (drew_ext _) | refine trans_ext ?_ (alloc_ext _ _) | refine trans_ext ?_ (by assumption)))) hx2); obtain ⟨_, l2, b2, b2', f2⟩ := box2 B2; obtain ⟨_, l3, b3, b3', f3⟩ := box2 B3; try (obtain ⟨_, l4, b4, b4', f4⟩ := box2 (BoxAt.toExt (BoxAt.new wr _ _).drew hx2))))
            all_goals
              go_wp2_with (go_at_call 99; refine AddRational_any.mono ?_; rintro e w3 ⟨rfl, hx3⟩; rw [Hs.out]; have C0 : BoxAt w3 w.heap.size #[.int .i64 0, .int .i64 0] := (by repeat (with_reducible (first | assumption | exact BoxAt.new _ _ _ | apply BoxAt.set2 | refine BoxAt.set2' ?_ (by omega) | apply BoxAt.setP0 | apply BoxAt.setP1 | refine BoxAt.setO ?_ (by omega) | refine BoxAt.alloc ?_ _ | refine BoxAt.drew ?_ | refine BoxAt.toExt ?_ (by assumption)))); have C1 : BoxAt w3 (w.heap.size + 1) #[.int .i64 a.1, .int .i64 a.2] := (by repeat (with_reducible (first | assumption | exact BoxAt.new _ _ _ | apply BoxAt.set2 | refine BoxAt.set2' ?_ (by omega) | apply BoxAt.setP0 | apply BoxAt.setP1 | refine BoxAt.setO ?_ (by omega) | refine BoxAt.alloc ?_ _ | refine BoxAt.drew ?_ | refine BoxAt.toExt ?_ (by assumption)))); obtain ⟨_, m2, d2, d2', g2⟩ := box2 C0; obtain ⟨_, m3, d3, d3', g3⟩ := box2 C1; (first | (refine haveThen (p := BoxAt w3 wr.heap.size #[.int .i64 p.1, .int .i64 p.2]) ?_ ?_; (focus ((repeat (with_reducible (first | assumption | exact BoxAt.new _ _ _ | apply BoxAt.set2 | refine BoxAt.set2' ?_ (by omega) | apply BoxAt.setP0 | apply BoxAt.setP1 | refine BoxAt.setO ?_ (by omega) | refine BoxAt.alloc ?_ _ | refine BoxAt.drew ?_ | refine BoxAt.toExt ?_ (by assumption)))); done)); intro C2) | (refine haveThen (p := BoxAt w3 w2.heap.size #[.int .i64 p.1, .int .i64 p.2]) ?_ ?_; (focus ((repeat (with_reducible (first | assumption | exact BoxAt.new _ _ _ | apply BoxAt.set2 | refine BoxAt.set2' ?_ (by omega) | apply BoxAt.setP0 | apply BoxAt.setP1 | refine BoxAt.setO ?_ (by omega) | refine BoxAt.alloc ?_ _ | refine BoxAt.drew ?_ | refine BoxAt.toExt ?_ (by assumption)))); done)); intro C2)); obtain ⟨_, m4, d4, d4', g4⟩ := box2 C2)
              exact bodyPost_ret (v := .tuple #[.agg #[.int .i64 0, .int .i64 0], .bool false]) (by simp [results, Try.results58, go_sem, d2, d2', m2]) rfl ⟨by rw [← He.out]; rfl, (by refine x'z ?_; repeat (with_reducible (first | exact x'a _ _ | exact x'b _ | exact x'c (by assumption) | refine x'd ?_ (by assumption) | refine x'e ?_ _ | refine x'f ?_ _ | refine x'g ?_ | refine x'h ?_ ?_ _ | refine x'i ?_ _ | refine x'j ?_ | refine x'k ?_ _ | refine x'l ?_ _ _ | refine x'm ?_ | assumption | (refine x'n ?_; omega) | omega)))⟩
          | some s =>
            have Hs := Lib.hid hs
            clear hs
            go_wp2_with fail
            go_region_held3 (fun w' => (∀ a : Addr, a.block < wr.heap.size → w'.cell? a = wr.cell? a) ∧ ∃ y, w' = ext wr y) (first | exact heldE (by refine x'z ?_; repeat (with_reducible (first | exact x'a _ _ | exact x'b _ | exact x'c (by assumption) | refine x'd ?_ (by assumption) | refine x'e ?_ _ | refine x'f ?_ _ | refine x'g ?_ | refine x'h ?_ ?_ _ | refine x'i ?_ _ | refine x'j ?_ | refine x'k ?_ _ | refine x'l ?_ _ _ | refine x'm ?_ | assumption | (refine x'n ?_; omega) | omega)))) (first | (go_at_call 92; refine MulRational_any.mono ?_; rintro e w2 ⟨rfl, hx2⟩; rw [Hm.out]; have B2 := B0.toExt (trans_ext (by repeat (with_reducible (first | exact refl_ext _ | exact alloc_ext _ _ | exact drew_ext _ | assumption | refine trans_ext ?_ (drew_ext _) | refine trans_ext ?_ (alloc_ext _ _) | refine trans_ext ?_ (by assumption)))) hx2); have B3 := B1.toExt (trans_ext (by repeat (with_reducible (first | exact refl_ext _ | exact alloc_ext _ _ | exact drew_ext _ | assumption | refine trans_ext ?_ (drew_ext _) | refine trans_ext ?_ (alloc_ext _ _) | refine trans_ext ?_ (by assumption)))) hx2); obtain ⟨_, l2, b2, b2', f2⟩ := box2 B2; obtain ⟨_, l3, b3, b3', f3⟩ := box2 B3; try (obtain ⟨_, l4, b4, b4', f4⟩ := box2 (BoxAt.toExt (BoxAt.new wr _ _).drew hx2))))
            all_goals
              go_wp2_with (go_at_call 99; refine AddRational_any.mono ?_; rintro e w3 ⟨rfl, hx3⟩; rw [Hs.out]; have C0 : BoxAt w3 w.heap.size #[.int .i64 0, .int .i64 0] := (by repeat (with_reducible (first | assumption | exact BoxAt.new _ _ _ | apply BoxAt.set2 | refine BoxAt.set2' ?_ (by omega) | apply BoxAt.setP0 | apply BoxAt.setP1 | refine BoxAt.setO ?_ (by omega) | refine BoxAt.alloc ?_ _ | refine BoxAt.drew ?_ | refine BoxAt.toExt ?_ (by assumption)))); have C1 : BoxAt w3 (w.heap.size + 1) #[.int .i64 a.1, .int .i64 a.2] := (by repeat (with_reducible (first | assumption | exact BoxAt.new _ _ _ | apply BoxAt.set2 | refine BoxAt.set2' ?_ (by omega) | apply BoxAt.setP0 | apply BoxAt.setP1 | refine BoxAt.setO ?_ (by omega) | refine BoxAt.alloc ?_ _ | refine BoxAt.drew ?_ | refine BoxAt.toExt ?_ (by assumption)))); obtain ⟨_, m2, d2, d2', g2⟩ := box2 C0; obtain ⟨_, m3, d3, d3', g3⟩ := box2 C1; (first | (refine haveThen (p := BoxAt w3 wr.heap.size #[.int .i64 p.1, .int .i64 p.2]) ?_ ?_; (focus ((repeat (with_reducible (first | assumption | exact BoxAt.new _ _ _ | apply BoxAt.set2 | refine BoxAt.set2' ?_ (by omega) | apply BoxAt.setP0 | apply BoxAt.setP1 | refine BoxAt.setO ?_ (by omega) | refine BoxAt.alloc ?_ _ | refine BoxAt.drew ?_ | refine BoxAt.toExt ?_ (by assumption)))); done)); intro C2) | (refine haveThen (p := BoxAt w3 w2.heap.size #[.int .i64 p.1, .int .i64 p.2]) ?_ ?_; (focus ((repeat (with_reducible (first | assumption | exact BoxAt.new _ _ _ | apply BoxAt.set2 | refine BoxAt.set2' ?_ (by omega) | apply BoxAt.setP0 | apply BoxAt.setP1 | refine BoxAt.setO ?_ (by omega) | refine BoxAt.alloc ?_ _ | refine BoxAt.drew ?_ | refine BoxAt.toExt ?_ (by assumption)))); done)); intro C2)); obtain ⟨_, m4, d4, d4', g4⟩ := box2 C2)
              exact ⟨⟨k + 1, s, by go_num, by omega, (by repeat (with_reducible (first | assumption | exact BoxAt.new _ _ _ | apply BoxAt.set2 | refine BoxAt.set2' ?_ (by omega) | apply BoxAt.setP0 | apply BoxAt.setP1 | refine BoxAt.setO ?_ (by omega) | refine BoxAt.alloc ?_ _ | refine BoxAt.drew ?_ | refine BoxAt.toExt ?_ (by assumption)))), (by repeat (with_reducible (first | assumption | exact BoxAt.new _ _ _ | apply BoxAt.set2 | refine BoxAt.set2' ?_ (by omega) | apply BoxAt.setP0 | apply BoxAt.setP1 | refine BoxAt.setO ?_ (by omega) | refine BoxAt.alloc ?_ _ | refine BoxAt.drew ?_ | refine BoxAt.toExt ?_ (by assumption)))), (by refine x'z ?_; repeat (with_reducible (first | exact x'a _ _ | exact x'b _ | exact x'c (by assumption) | refine x'd ?_ (by assumption) | refine x'e ?_ _ | refine x'f ?_ _ | refine x'g ?_ | refine x'h ?_ ?_ _ | refine x'i ?_ _ | refine x'j ?_ | refine x'k ?_ _ | refine x'l ?_ _ _ | refine x'm ?_ | assumption | (refine x'n ?_; omega) | omega))), by rw [← dotG_some hlt hlt2 Hm.out Hs.out]; exact Hj.out⟩, by simp [intOf]; omega⟩
      · go_wp2
        have e := Hj.out
        rw [dotG_end hlt] at e
        exact bodyPost_ret (v := .tuple #[.agg #[.int .i64 a.1, .int .i64 a.2], .bool true]) (by simp [results, Try.results58, go_sem, b0, b0']) rfl ⟨by rw [← e]; rfl, (by refine x'z ?_; repeat (with_reducible (first | exact x'a _ _ | exact x'b _ | exact x'c (by assumption) | refine x'd ?_ (by assumption) | refine x'e ?_ _ | refine x'f ?_ _ | refine x'g ?_ | refine x'h ?_ ?_ _ | refine x'i ?_ _ | refine x'j ?_ | refine x'k ?_ _ | refine x'l ?_ _ _ | refine x'm ?_ | assumption | (refine x'n ?_; omega) | omega)))⟩
  · have hn : ((xs.length : Int) != (ys.length : Int)) = true := by simp; omega
    rw [show dotR xs ys = none by unfold dotR; rw [if_neg hl]]
    go_enter Try.func58, Try.ntmps58
    go_wp2
    exact bodyPost_ret (v := .tuple #[.agg #[.int .i64 0, .int .i64 0], .bool false]) (by simp [results, Try.results58, go_sem]) rfl ⟨rfl, (by refine x'z ?_; repeat (with_reducible (first | exact x'a _ _ | exact x'b _ | exact x'c (by assumption) | refine x'd ?_ (by assumption) | refine x'e ?_ _ | refine x'f ?_ _ | refine x'g ?_ | refine x'h ?_ ?_ _ | refine x'i ?_ _ | refine x'j ?_ | refine x'k ?_ _ | refine x'l ?_ _ _ | refine x'm ?_ | assumption | (refine x'n ?_; omega) | omega)))⟩
end Go.Proofs.Ytbjpkfgkmilkdaa
namespace Go.Proofs.Ytbjpkfgkmilkdaa
theorem pivS_bd {p : Nat} {m : List (List Q2)} : ∀ {j k : Nat}, k ≤ pivS p m j k ∧ pivS p m j k ≤ k + j
  | 0, k => by rw [pivS]; omega
  | j + 1, k => by
    rw [pivS]
    split
    · have := pivS_bd (p := p) (m := m) (j := j) (k := k + 1)
      omega
    · omega
theorem gr_swap {p k : Nat} {m : List (List Q2)} (hp : p < m.length) (hk : k < m.length) (i : Nat) : gr (swapL p k m) i = if i = k then gr m p else if i = p then gr m k else gr m i := by
  unfold swapL
  rw [gr_set, gr_set]
  simp only [List.length_set]
  by_cases h1 : i = k
  · subst h1; simp [hk]
  · rw [if_neg (fun h => h1 h.1.symm), if_neg h1]
    by_cases h2 : i = p
    · subst h2; simp [hp]
    · rw [if_neg (fun h => h2 h.1.symm), if_neg h2]
theorem solS_ok {n : Nat} : ∀ {j p : Nat} {m m' : List (List Q2)}, solS n j p m = some m' → p + j = n → m.length = n → (∀ k, k < n → (gr m k).length = n + 1) → Diag p n m →
    m'.length = n ∧ Diag n n m' ∧ ∀ x, (∀ k, k < n → Sat n x (gr m' k)) → ∀ k, k < n → Sat n x (gr m k)
  | 0, p, m, m', h, hpj, hm, hr, hD => by
    rw [solS] at h
    injection h with h
    subst h
    obtain rfl : p = n := by omega
    exact ⟨hm, hD, fun x h => h⟩
  | j + 1, p, m, m', h, hpj, hm, hr, hD => by
    rw [solS] at h
    split at h
    · cases h
    · rename_i hk
      split at h
      · cases h
      · rename_i m1 h1
        have hb := pivS_bd (p := p) (m := m) (j := n - p) (k := p)
        obtain ⟨k, hkk⟩ : ∃ k, pivS p m (n - p) p = k := ⟨_, rfl⟩
        rw [hkk] at hk hb h1
        have hkn : k < n := by omega
        have hpn : p < n := by omega
        have gs := gr_swap (p := p) (k := k) (m := m) (by omega) (by omega)
        have hsl : (swapL p k m).length = n := by simp [swapL, hm]
        have hsr : ∀ i, i < n → (gr (swapL p k m) i).length = n + 1 := fun i hi => by
          rw [gs i]
          split
          · exact hr p hpn
          · split
            · exact hr k hkn
            · exact hr i hi
        have hDs : Diag p n (swapL p k m) := fun c hc i hi hne => by
          rw [gs i]
          split
          · exact hD c hc p hpn (by omega)
          · split
            · exact hD c hc k hkn (by omega)
            · exact hD c hc i hi hne
        obtain ⟨a1, a2, _, a4, a5, a6, a7⟩ := stepS_ok hpn h1 (by omega) hsl hsr
        have hD1 : Diag (p + 1) n m1 := fun c hc i hi hne => by
          by_cases e : c = p
          · subst e
            exact a6 i (by omega) hi hne
          · rw [a5 i c (by omega)]
            exact hDs c (by omega) i hi hne
        obtain ⟨b1, b2, b3⟩ := solS_ok h (by omega) a1 a2 hD1
        refine ⟨b1, b2, fun x hs i hi => ?_⟩
        have hs1 := a7 x (fun c hc => hDs c hc p hpn (by omega)) (b3 x hs)
        by_cases e : i = p
        · subst e
          have := hs1 k hkn
          rwa [gs k, if_pos rfl] at this
        · by_cases e2 : i = k
          · subst e2
            have := hs1 p hpn
            rw [gs p] at this
            split at this
            · rename_i e3; rw [← e3]; exact this
            · rwa [if_pos rfl] at this
          · have := hs1 i hi
            rwa [gs i, if_neg e2, if_neg e] at this
theorem outS_ok {n : Nat} {m : List (List Q2)} : ∀ {j p : Nat} {out x : List Q2}, outS n m j p out = some x → out.length = p → x.length = p + j ∧ (∀ i, i < p → gq x i = gq out i) ∧ ∀ i, p ≤ i → i < p + j → rq (gq x i) * rq (gq (gr m i) i) = rq (gq (gr m i) n)
  | 0, p, out, x, h, hl => by
    rw [outS] at h
    injection h with h
    subst h
    exact ⟨by omega, fun i _ => rfl, fun i h1 h2 => absurd h1 (by omega)⟩
  | j + 1, p, out, x, h, hl => by
    rw [outS] at h
    split at h
    · cases h
    · rename_i y hy
      obtain ⟨h1, h2, h3⟩ := outS_ok h (by simp [hl])
      have ga : ∀ i, gq (out ++ [y]) i = if i < p then gq out i else if i = p then y else (0, 0) := fun i => by
        unfold gq
        simp only [List.getD_eq_getElem?_getD]
        by_cases e : i < p
        · rw [List.getElem?_append_left (by omega), if_pos e]
        · rw [List.getElem?_append_right (by omega), if_neg e]
          by_cases e2 : i = p
          · subst e2; simp [hl]
          · rw [if_neg e2, List.getElem?_eq_none (by simp; omega)]
            rfl
      refine ⟨by omega, fun i hi => by rw [h2 i (by omega), ga i, if_pos hi], fun i h4 h5 => ?_⟩
      by_cases e : i = p
      · subst e
        rw [h2 i (by omega), ga i, if_neg (by omega), if_pos rfl]
        exact (divR_rq hy).1
      · exact h3 i (by omega) (by omega)
theorem diag_sat {n : Nat} {m : List (List Q2)} {x : List Q2} (hD : Diag n n m) (hx : ∀ i, i < n → rq (gq x i) * rq (gq (gr m i) i) = rq (gq (gr m i) n)) : ∀ k, k < n → Sat n (fun i => rq (gq x i)) (gr m k) := fun k hk => by
  unfold Sat
  rw [sumQ_one hk fun j hj hne => by rw [hD j hj k hk (fun e => hne e.symm)]; grind]
  rw [← hx k hk]
  grind
theorem dotG_ok : ∀ {xs ys : List Q2} {a c : Q2}, dotG a xs ys = some c → xs.length = ys.length → isVR a = true → isVR c = true ∧ rq c = rq a + sumQ (fun j => rq (gq xs j) * rq (gq ys j)) xs.length
  | [], [], a, c, h, _, ha => by
    have h : some a = some c := h
    injection h with h
    subst h
    refine ⟨ha, ?_⟩
    simp [sumQ]
    grind
  | x :: xs, y :: ys, a, c, h, hl, ha => by
    rw [dotG] at h
    split at h
    · cases h
    · rename_i p hp
      split at h
      · cases h
      · rename_i s hs
        obtain ⟨e1, _, _, _⟩ := mulR_rq hp
        obtain ⟨e2, _, _, vs⟩ := addR_rq hs
        obtain ⟨vc, e3⟩ := dotG_ok h (by simpa using hl) vs
        refine ⟨vc, ?_⟩
        rw [e3, e2, e1]
        have : ∀ (f : Nat → Rat) (n : Nat), sumQ f (n + 1) = f 0 + sumQ (fun j => f (j + 1)) n := fun f n => by
          induction n with
          | zero => simp [sumQ]; grind
          | succ n ih => rw [sumQ, ih, sumQ]; grind
        rw [List.length_cons, this]
        simp only [gq, List.getD_cons_zero, List.getD_cons_succ]
        grind
theorem gr_aug {a : List (List Q2)} {b : List Q2} {i : Nat} (h : i < a.length) (h' : i < b.length) : gr (augL a b) i = a[i] ++ [b[i]] := by
  unfold gr augL
  rw [List.getD_eq_getElem?_getD, List.getElem?_eq_getElem (by simp; omega)]
  simp
theorem solR_ok {a : List (List Q2)} {b x : List Q2} (h : solR a b = some x) : x.length = b.length ∧ a.length = b.length ∧ allV b = true ∧ ∀ i (h1 : i < a.length) (h2 : i < b.length), a[i].length = x.length ∧ ∀ c, dotR a[i] x = some c → c = b[i] := by
  unfold solR at h
  split at h
  · rename_i hs
    unfold sysB sqB at hs
    simp only [Bool.and_eq_true, decide_eq_true_eq] at hs
    obtain ⟨⟨h6, hall, hab⟩, hv⟩ := hs
    rw [List.all_eq_true] at hall
    have hrow : ∀ i (h1 : i < a.length), a[i].length = b.length := fun i h1 => (rowB_t (hall _ (List.getElem_mem h1))).1
    split at h
    · cases h
    · rename_i m hm
      have hal : (augL a b).length = b.length := by simp [augL, hab]
      have har : ∀ k, k < b.length → (gr (augL a b) k).length = b.length + 1 := fun k hk => by rw [gr_aug (by omega) hk]; simp [hrow k (by omega)]
      obtain ⟨_, hD, hS⟩ := solS_ok hm (by omega) hal har (fun c hc => absurd hc (by omega))
      obtain ⟨hx, _, hx3⟩ := outS_ok h rfl
      have hx' : x.length = b.length := by omega
      have hsat := hS _ (diag_sat hD fun i hi => hx3 i (by omega) (by omega))
      refine ⟨hx', hab, hv, fun i h1 h2 => ⟨by rw [hrow i h1, hx'], fun c hc => ?_⟩⟩
      unfold dotR at hc
      rw [if_pos (by rw [hrow i h1, hx'])] at hc
      obtain ⟨vc, ec⟩ := dotG_ok hc (by rw [hrow i h1, hx']) (by decide)
      have hs1 := hsat i h2
      rw [gr_aug h1 h2] at hs1
      unfold Sat at hs1
      unfold allV at hv
      rw [List.all_eq_true] at hv
      refine rq_inj vc (hv _ (List.getElem_mem h2)) ?_
      have g1 : gq (a[i] ++ [b[i]]) b.length = b[i] := by
        unfold gq
        rw [List.getD_eq_getElem?_getD, List.getElem?_append_right (by rw [hrow i h1]; omega), hrow i h1]
        simp
      have g2 : ∀ j, j < b.length → gq (a[i] ++ [b[i]]) j = gq a[i] j := fun j hj => by
        unfold gq
        rw [List.getD_eq_getElem?_getD, List.getD_eq_getElem?_getD, List.getElem?_append_left (by rw [hrow i h1]; exact hj)]
      rw [ec, hrow i h1, ← g1, ← hs1]
      have e5 : sumQ (fun j => rq (gq (a[i] ++ [b[i]]) j) * (fun i => rq (gq x i)) j) b.length = sumQ (fun j => rq (gq a[i] j) * rq (gq x j)) b.length := sumQ_congr fun j hj => by rw [g2 j hj]
      rw [e5]
      have : rq (0, 1) = 0 := rq_zero rfl
      rw [this]
      grind
  · cases h
end Go.Proofs.Ytbjpkfgkmilkdaa
namespace Go.Proofs.Ytbjpkfgkmilkdaa
open Go.RowKit
theorem sol_len (a : List (List Q2)) (b : List Q2) : ((solR a b).getD []).length ≤ b.length := by
  cases h : solR a b with
  | none => simp
  | some x => simp [(solR_ok h).1]
theorem SolveLinearSystem_any {A A' : Option Addr} {c c' : Nat} {a : List (List (Int × Int))} {b : List (Int × Int)} {w : World} (hx : a.length ≤ 1000000000) (h1 : RRR w A a) (hxl : ∀ x ∈ a, x.length ≤ 1000000000) (hy : b.length ≤ 1000000000) (h2 : RR w A' b) :
    Calls Try.prog 12 #[.slice A a.length c, .slice A' b.length c'] w (SoRes 67 (solR a b) w) := by
  by_cases h : b.length ≤ 6 ∧ a.length = b.length ∧ allV b = true
  · exact SolveLinearSystem_yes h1 hxl h2 h.1 rfl h.2.1 h.2.2
  · exact SolveLinearSystem_no hx hy h2 h
theorem specSolveLinearSystem_any {A A' : Option Addr} {c c' : Nat} {a : List (List (Int × Int))} {b : List (Int × Int)} {w : World} (hx : a.length ≤ 1000000000) (h1 : RRR w A a) (hxl : ∀ x ∈ a, x.length ≤ 1000000000) (hy : b.length ≤ 1000000000) (h2 : RR w A' b) :
    Calls Try.prog 9 #[.slice A a.length c, .slice A' b.length c'] w (SoRes 67 (solR a b) w) := by
  by_cases h : b.length ≤ 6 ∧ sqB a b.length b.length = true
  · exact specSolve_yes h1 hxl h2 h.1 rfl h.2
  · exact specSolve_no h1 hxl hx hy h
end Go.Proofs.Ytbjpkfgkmilkdaa
namespace Go.Proofs.Ytbjpkfgkmilkdaa
open Go.RowKit
def mvG : List (Int × Int) → List (List (Int × Int)) → List (Int × Int) → Option (List (Int × Int))
  | acc, [], _ => some acc
  | acc, x :: xs, y => match dotR x y with
    | none => none
    | some r => mvG (acc ++ [r]) xs y
theorem mvG_some {acc : List (Int × Int)} {xs : List (List (Int × Int))} {y : List (Int × Int)} {k : Nat} {r : Int × Int} (h : k < xs.length) (e : dotR xs[k] y = some r) : mvG acc (xs.drop k) y = mvG (acc ++ [r]) (xs.drop (k + 1)) y := by
  rw [List.drop_eq_getElem_cons h, mvG, e]
theorem mvG_none {acc : List (Int × Int)} {xs : List (List (Int × Int))} {y : List (Int × Int)} {k : Nat} (h : k < xs.length) (e : dotR xs[k] y = none) : mvG acc (xs.drop k) y = none := by
  rw [List.drop_eq_getElem_cons h, mvG, e]
theorem mvG_end {acc : List (Int × Int)} {xs : List (List (Int × Int))} {y : List (Int × Int)} {k : Nat} (h : ¬ k < xs.length) : mvG acc (xs.drop k) y = some acc := by
  rw [List.drop_eq_nil_of_le (by omega), mvG]
theorem mvG_length : ∀ (xs : List (List (Int × Int))) (y acc l : List (Int × Int)), mvG acc xs y = some l → l.length = acc.length + xs.length
  | [], y, acc, l, h => by injection h with h; simp [h]
  | x :: xs, y, acc, l, h => by
    rw [mvG] at h
    split at h
    · cases h
    · rw [mvG_length xs _ _ _ h]
      simp; omega
theorem mv_len (xs : List (List (Int × Int))) (y : List (Int × Int)) : ((mvG [] xs y).getD []).length ≤ xs.length := by
  cases h : mvG [] xs y with
  | none => simp
  | some l => have := mvG_length _ _ _ _ h; simp at this; simp; omega
def MvRes (xs : List (List (Int × Int))) (y : List (Int × Int)) (w : World) (e : Ending) (w' : World) : Prop := ∃ v F, e = .returned (.tuple #[v, .bool (mvG [] xs y).isSome]) ∧ (∃ y, w' = ext w y) ∧ SV 67 2 sR w' v ((mvG [] xs y).getD []) F ∧ ∀ b ∈ F, w.heap.size ≤ b
set_option maxHeartbeats 1000000 in
theorem MatrixVectorProduct_any {A A' : Option Addr} {c c' : Nat} {xs : List (List (Int × Int))} {ys : List (Int × Int)} {w : World} (hx : xs.length ≤ 1000000000) (h1 : RRR w A xs) (hxl : ∀ x ∈ xs, x.length ≤ 1000000000) (hy : ys.length ≤ 1000000000) (h2 : RR w A' ys) :
    Calls Try.prog 21 #[.slice A xs.length c, .slice A' ys.length c'] w (MvRes xs ys w) := by
  have Hxl := Lib.hid hxl
  clear hxl
  go_enter Try.func21, Try.ntmps21
  go_wp2
  go_loopw [6, 13] (fun v i wr => ∃ (k : Nat) (ds : List (Int × Int)) (F : List Nat), i = .int .i64 k ∧ k ≤ xs.length ∧ SV 67 2 sR wr v ds F ∧ (∀ b ∈ F, w.heap.size ≤ b) ∧ (∃ y, wr = ext w y) ∧ ds.length = k ∧ mvG ds (xs.drop k) ys = mvG [] xs ys) (fun _ i _ => xs.length - (intOf i).toNat)
  case atStart => exact ⟨0, [], [], rfl, by omega, SV.nil, by simp, refl_ext _, rfl, by simp⟩
  case round =>
    obtain ⟨k, ds, F, rfl, hk, hS, hF, hw, hl, hj⟩ := hrel
    have Hj := Lib.hid hj
    have HF := Lib.hid hF
    have Hl := Lib.hid hl
    have hl1 : ds.length ≤ k := by omega
    clear hj hF hl
    have h1' := h1.toExt hw
    have h2' := h2.toExt hw
    by_cases hlt : k < xs.length
    · obtain ⟨b, o, A1, c1, rfl, hb, hc, hv⟩ := h1'.atV hlt
      have hle := Hxl.out xs[k] (List.getElem_mem hlt)
      cases hr : dotR xs[k] ys with
      | some r =>
        have HE := Lib.hid ((mvG_some hlt hr).symm.trans Hj.out)
        have Hr := Lib.hid hr
        clear hr
        go_wp2_with (first
          | (go_at_call 58; refine (DotProduct_any hle hv hy h2').mono ?_; rintro e w2 ⟨rfl, hx2⟩; rw [Hr.out])
          | (at_builtin; refine wpList_app1 (E := sR) (d := r) rfl _ _ _ rfl tR rfl rfl rfl (by simp) (fun _ => ⟨rfl, rfl⟩) rfl (by simp [Value.oneCell']) (hS.toExt (by refine x'z ?_; repeat (with_reducible (first | exact x'a _ _ | exact x'b _ | exact x'c (by assumption) | refine x'd ?_ (by assumption) | refine x'e ?_ _ | refine x'f ?_ _ | refine x'g ?_ | refine x'h ?_ ?_ _ | refine x'i ?_ _ | refine x'j ?_ | refine x'k ?_ _ | refine x'l ?_ _ _ | refine x'm ?_ | assumption | (refine x'n ?_; omega) | omega)))) (by omega) (by omega) ?_; intro v' w' F' hS' hC' hF'))
        exact ⟨⟨k + 1, ds ++ [r], F', by go_num, by omega, hS', newer HF.out (size_of_ext (by refine x'z ?_; repeat (with_reducible (first | exact x'a _ _ | exact x'b _ | exact x'c (by assumption) | refine x'd ?_ (by assumption) | refine x'e ?_ _ | refine x'f ?_ _ | refine x'g ?_ | refine x'h ?_ ?_ _ | refine x'i ?_ _ | refine x'j ?_ | refine x'k ?_ _ | refine x'l ?_ _ _ | refine x'm ?_ | assumption | (refine x'n ?_; omega) | omega)))) hF', hC'.isExt (by refine x'z ?_; repeat (with_reducible (first | exact x'a _ _ | exact x'b _ | exact x'c (by assumption) | refine x'd ?_ (by assumption) | refine x'e ?_ _ | refine x'f ?_ _ | refine x'g ?_ | refine x'h ?_ ?_ _ | refine x'i ?_ _ | refine x'j ?_ | refine x'k ?_ _ | refine x'l ?_ _ _ | refine x'm ?_ | assumption | (refine x'n ?_; omega) | omega))) HF.out, by simp [Hl.out], HE.out⟩, by simp [intOf]; omega⟩
      | none =>
        have HE := Lib.hid (show mvG [] xs ys = none by rw [← Hj.out, mvG_none hlt hr])
        have Hr := Lib.hid hr
        clear hr
        go_wp2_with (first
          | (go_at_call 58; refine (DotProduct_any hle hv hy h2').mono ?_; rintro e w2 ⟨rfl, hx2⟩; rw [Hr.out]))
        go_ret2
        exact ⟨_, [], by rw [HE.out]; rfl, (by refine x'z ?_; repeat (with_reducible (first | exact x'a _ _ | exact x'b _ | exact x'c (by assumption) | refine x'd ?_ (by assumption) | refine x'e ?_ _ | refine x'f ?_ _ | refine x'g ?_ | refine x'h ?_ ?_ _ | refine x'i ?_ _ | refine x'j ?_ | refine x'k ?_ _ | refine x'l ?_ _ _ | refine x'm ?_ | assumption | (refine x'n ?_; omega) | omega))), by rw [HE.out]; exact SV.nil, by simp⟩
    · have e := Hj.out
      rw [mvG_end (by omega)] at e
      have HE := Lib.hid e.symm
      clear e
      go_wp2
      go_ret2
      exact ⟨_, F, by rw [HE.out]; rfl, hw, by rw [HE.out]; exact hS, HF.out⟩
end Go.Proofs.Ytbjpkfgkmilkdaa
namespace Go.Proofs.Ytbjpkfgkmilkdaa
theorem mvG_each : ∀ {xs : List (List Q2)} {y acc l : List Q2}, mvG acc xs y = some l → ∃ l', l = acc ++ l' ∧ l'.length = xs.length ∧ ∀ i (h : i < xs.length) (h' : i < l'.length), dotR xs[i] y = some l'[i]
  | [], y, acc, l, h => by
    rw [mvG] at h
    injection h with h
    exact ⟨[], by simp [h], rfl, fun i h => absurd h (by simp)⟩
  | x :: xs, y, acc, l, h => by
    rw [mvG] at h
    split at h
    · cases h
    · rename_i r hr
      obtain ⟨l', e1, e2, e3⟩ := mvG_each h
      refine ⟨r :: l', by simp [e1], by simp [e2], fun i h h' => ?_⟩
      rcases i with _ | i
      · exact hr
      · exact e3 i (by simpa using h) (by simpa using h')
theorem solve_mv {a : List (List Q2)} {b x c : List Q2} (h : solR a b = some x) (hc : mvG [] a x = some c) : c = b := by
  obtain ⟨_, hab, _, hall⟩ := solR_ok h
  obtain ⟨l, e1, e2, e3⟩ := mvG_each hc
  simp only [List.nil_append] at e1
  subst e1
  apply List.ext_getElem
  · omega
  · intro i h1 h2
    exact (hall i (by omega) h2).2 _ (e3 i (by omega) h1)
end Go.Proofs.Ytbjpkfgkmilkdaa
