/- Numbers as decimal texts, texts divided at a byte, digits as a number: plain laws, no program in them. -/
import Derived.Test.YtgehnacmgofobaaDoorOwn
namespace Go.Proofs.YtgehnacmgofobaaDoor
open Go.RowKit

def dec (n : Nat) : List UInt8 := if _h : n < 10 then [UInt8.ofNat (48 + n)] else dec (n / 10) ++ [UInt8.ofNat (48 + n % 10)]
termination_by n
decreasing_by omega
def bs (l : List UInt8) : ByteArray := ⟨l.toArray⟩
def decI (z : Int) : ByteArray := if z < 0 then bs (45 :: dec z.natAbs) else bs (dec z.natAbs)
theorem dec_small {n : Nat} (h : n < 10) : dec n = [UInt8.ofNat (48 + n)] := by rw [dec, dif_pos h]
theorem dec_big {n : Nat} (h : ¬ n < 10) : dec n = dec (n / 10) ++ [UInt8.ofNat (48 + n % 10)] := by rw [dec, dif_neg h]
theorem bs_append (a b : List UInt8) : bs a ++ bs b = bs (a ++ b) := by
  apply Go.WideShapes.bytes_inj
  simp [bs]
theorem neg_td {z : Int} (h : z ≤ 0) : z.tdiv 10 = -((-z) / 10) := by
  rw [show z.tdiv 10 = (-(-z)).tdiv 10 by rw [Int.neg_neg], Int.neg_tdiv, Int.tdiv_eq_ediv_of_nonneg (by omega)]
theorem neg_tm {z : Int} (h : z ≤ 0) : z.tmod 10 = -((-z) % 10) := by
  rw [show z.tmod 10 = (-(-z)).tmod 10 by rw [Int.neg_neg], Int.neg_tmod, Int.tmod_eq_emod_of_nonneg (by omega)]
theorem decI_neg {z : Int} (h : z ≤ -10) : bs [45] ++ decI (-z.tdiv 10) ++ decI (-z.tmod 10) = decI z := by
  have e1 := neg_td (z := z) (by omega)
  have e2 := neg_tm (z := z) (by omega)
  rw [e1, e2]
  unfold decI
  rw [if_neg (by omega), if_neg (by omega), if_pos (by omega), bs_append, bs_append, dec_big (n := z.natAbs) (by omega), dec_small (n := (- -(-z % 10)).natAbs) (by omega)]
  rw [show (- -(-z / 10)).natAbs = z.natAbs / 10 by omega, show (- -(-z % 10)).natAbs = z.natAbs % 10 by omega]
  rfl
theorem decI_neg1 {z : Int} (h : z < 0) : bs [45] ++ decI (-z) = decI z := by
  unfold decI
  rw [if_neg (by omega), if_pos h, bs_append, Int.natAbs_neg]
  rfl
theorem decI_one {z : Int} (h : 0 ≤ z) (h2 : z < 10) : bs [UInt8.ofNat (48 + z).toNat] = decI z := by
  unfold decI
  rw [if_neg (by omega), dec_small (by omega), show (48 + z).toNat = 48 + z.natAbs by omega]
theorem decI_pos {z : Int} (h : 10 ≤ z) : decI (z / 10) ++ bs [UInt8.ofNat (48 + z % 10).toNat] = decI z := by
  unfold decI
  rw [if_neg (by omega), if_neg (by omega), dec_big (n := z.natAbs) (by omega), bs_append, show (z / 10).natAbs = z.natAbs / 10 by omega, show (48 + z % 10).toNat = 48 + z.natAbs % 10 by omega]
theorem dec_length : ∀ (k n : Nat), 1 ≤ k → n < 10 ^ k → (dec n).length ≤ k
  | 0, _, h, _ => absurd h (by omega)
  | k + 1, n, _, h => by
    by_cases h1 : n < 10
    · rw [dec_small h1]; simp
    · have hk : 1 ≤ k := by
        rcases Nat.eq_zero_or_pos k with h0 | h0
        · subst h0; simp at h; omega
        · exact h0
      have := dec_length k (n / 10) hk (by rw [Nat.pow_succ] at h; omega)
      rw [dec_big h1]
      simp
      exact this
theorem bs_size (l : List UInt8) : (bs l).size = l.length := by simp [bs, ByteArray.size]
theorem decI_size {z : Int} (h1 : -9223372036854775808 ≤ z) (h2 : z ≤ 9223372036854775807) : (decI z).size ≤ 20 := by
  have := dec_length 19 z.natAbs (by omega) (by omega)
  unfold decI
  split <;> rw [bs_size] <;> simp <;> omega
theorem bs1 (n : Int) : strOfNums [n] = bs [UInt8.ofNat n.toNat] := rfl

theorem dec_ne (n : Nat) : dec n ≠ [] := by
  by_cases h : n < 10
  · rw [dec_small h]; simp
  · rw [dec_big h]; simp
theorem ba_size (a b : ByteArray) : (a ++ b).size = a.size + b.size := ByteArray.size_append
theorem isEmpty_no {s : ByteArray} (h : 1 ≤ s.size) : s.toList.isEmpty = false := by
  rw [ByteArray.toList_eq, List.isEmpty_eq_false_iff]
  intro e
  have h2 : s.data.toList.length = 0 := by rw [e]; rfl
  have h3 : s.size = s.data.toList.length := by rw [Array.length_toList]; rfl
  omega
theorem toList_empty {s : ByteArray} (h : 1 ≤ s.size) : (s.toList == (ByteArray.mk #[]).toList) = false := by
  rw [str_beq]
  apply decide_eq_false
  rintro rfl
  exact absurd h (by decide)
/-! a text divided at a byte -/
def jh (p : List UInt8) : List (List UInt8) → List (List UInt8)
  | [] => [p]
  | q :: qs => (p ++ q) :: qs
def spl (c : UInt8) : List UInt8 → List (List UInt8)
  | [] => [[]]
  | x :: xs => if x = c then [] :: spl c xs else jh [x] (spl c xs)
theorem jh_ne (p : List UInt8) (L : List (List UInt8)) : jh p L ≠ [] := by cases L <;> simp [jh]
theorem spl_ne (c : UInt8) : ∀ l, spl c l ≠ []
  | [] => by simp [spl]
  | x :: xs => by
    unfold spl
    split
    · simp
    · exact jh_ne _ _
theorem jh_nil {L : List (List UInt8)} (h : L ≠ []) : jh [] L = L := by
  cases L with
  | nil => exact absurd rfl h
  | cons q qs => rfl
theorem jh_jh (p q : List UInt8) (L : List (List UInt8)) : jh p (jh q L) = jh (p ++ q) L := by cases L <;> simp [jh]
theorem spl_sep (c : UInt8) (xs : List UInt8) : spl c (c :: xs) = [] :: spl c xs := by rw [spl, if_pos rfl]
theorem spl_other {c x : UInt8} (h : x ≠ c) (xs : List UInt8) : spl c (x :: xs) = jh [x] (spl c xs) := by rw [spl, if_neg h]
theorem spl_app {c : UInt8} {p : List UInt8} (h : ∀ x ∈ p, x ≠ c) (r : List UInt8) : spl c (p ++ r) = jh p (spl c r) := by
  induction p with
  | nil => exact (jh_nil (spl_ne c r)).symm
  | cons x p ih =>
    rw [List.cons_append, spl_other (h x (by simp)), ih fun y hy => h y (by simp [hy]), jh_jh]
    rfl
theorem spl_none {c : UInt8} {p : List UInt8} (h : ∀ x ∈ p, x ≠ c) : spl c p = [p] := by
  have := spl_app h []
  simpa [spl, jh] using this
theorem spl_two {c : UInt8} {p : List UInt8} (h : ∀ x ∈ p, x ≠ c) (r : List UInt8) : spl c (p ++ c :: r) = p :: spl c r := by
  rw [spl_app h, spl_sep]
  simp [jh]
theorem spl_length (c : UInt8) : ∀ l : List UInt8, (spl c l).length ≤ l.length + 1
  | [] => by simp [spl]
  | x :: xs => by
    have h := spl_length c xs
    unfold spl
    split
    · simpa using h
    · cases e : spl c xs with
      | nil => simp [jh]
      | cons q qs => rw [e] at h; simp [jh] at h ⊢; omega
theorem spl_piece (c : UInt8) : ∀ l : List UInt8, ∀ p ∈ spl c l, p.length ≤ l.length
  | [], p, h => by simp [spl] at h; simp [h]
  | x :: xs, p, h => by
    have ih := spl_piece c xs
    unfold spl at h
    split at h
    · rcases List.mem_cons.1 h with e | e
      · simp [e]
      · exact Nat.le_trans (ih p e) (by simp)
    · cases e : spl c xs with
      | nil => exact absurd e (spl_ne c xs)
      | cons q qs =>
        rw [e] at h ih
        rcases List.mem_cons.1 h with e | e
        · subst e; simpa using ih q (by simp)
        · exact Nat.le_trans (ih p (by simp [e])) (by simp)
/-- a round of the loop that divides: 'cut' lies between the last separator and the place k -/
theorem spl_step {c : UInt8} {l cut : List UInt8} {k : Nat} (h : k < l.length) (hc : l[k] ≠ c) : jh cut (spl c (l.drop k)) = jh (cut ++ [l[k]]) (spl c (l.drop (k + 1))) := by
  rw [List.drop_eq_getElem_cons h, spl_other hc, jh_jh]
theorem spl_cut {c : UInt8} {l cut : List UInt8} {k : Nat} (h : k < l.length) (hc : l[k] = c) : jh cut (spl c (l.drop k)) = cut :: spl c (l.drop (k + 1)) := by
  rw [List.drop_eq_getElem_cons h, hc, spl_sep]
  simp [jh]
theorem spl_last {c : UInt8} {l cut : List UInt8} {k : Nat} (h : ¬ k < l.length) : jh cut (spl c (l.drop k)) = [cut] := by
  rw [List.drop_eq_nil_of_le (by omega)]
  simp [spl, jh]

/-! digits as a number -/
def isD (b : UInt8) : Bool := decide (48 ≤ b.toNat ∧ b.toNat ≤ 57)
def numG : Int → List UInt8 → Option Int
  | n, [] => some n
  | n, d :: ds => if isD d = true then numG (10 * n + ((d.toNat : Int) - 48)) ds else none
theorem numG_append : ∀ (n : Int) (a b : List UInt8), numG n (a ++ b) = (numG n a).bind fun m => numG m b
  | _, [], _ => rfl
  | n, d :: a, b => by
    rw [List.cons_append, numG, numG]
    split
    · exact numG_append _ a b
    · rfl
theorem digit_toNat {n : Nat} (h : n < 10) : (UInt8.ofNat (48 + n)).toNat = 48 + n := by
  rw [UInt8.toNat_ofNat', Nat.mod_eq_of_lt (by omega)]
theorem isD_digit {n : Nat} (h : n < 10) : isD (UInt8.ofNat (48 + n)) = true := by
  unfold isD
  rw [digit_toNat h]
  simp; omega
theorem numG_dec (n : Nat) : numG 0 (dec n) = some (n : Int) := by
  induction n using Nat.strongRecOn with
  | _ n ih =>
    by_cases h : n < 10
    · rw [dec_small h, numG, if_pos (isD_digit h), digit_toNat h, numG]
      congr 1; omega
    · rw [dec_big h, numG_append, ih (n / 10) (by omega)]
      simp only [Option.bind, numG]
      rw [if_pos (isD_digit (by omega)), digit_toNat (by omega)]
      congr 1; omega
theorem dec_isD (n : Nat) : ∀ x ∈ dec n, isD x = true := by
  induction n using Nat.strongRecOn with
  | _ n ih =>
    by_cases h : n < 10
    · rw [dec_small h]
      intro x hx
      rw [List.mem_singleton.1 hx]
      exact isD_digit h
    · rw [dec_big h]
      intro x hx
      rcases List.mem_append.1 hx with h1 | h1
      · exact ih _ (by omega) x h1
      · rw [List.mem_singleton.1 h1]
        exact isD_digit (by omega)
theorem isD_ne {x c : UInt8} (h : isD x = true) (hc : isD c = false) : x ≠ c := by
  rintro rfl
  rw [h] at hc
  cases hc
theorem numG_le : ∀ (l : List UInt8) (n m : Int) (k : Nat), numG n l = some m → 0 ≤ n → n < 10 ^ k → 0 ≤ m ∧ m < 10 ^ (k + l.length)
  | [], n, m, k, h, h0, h1 => by
    simp only [numG, Option.some.injEq] at h
    subst h
    exact ⟨h0, by simpa using h1⟩
  | d :: l, n, m, k, h, h0, h1 => by
    rw [numG] at h
    split at h
    · rename_i hd
      have hd : 48 ≤ d.toNat ∧ d.toNat ≤ 57 := by simpa [isD] using hd
      have h2 : (10 : Int) ^ (k + 1) = 10 ^ k * 10 := Int.pow_succ 10 k
      have := numG_le l _ m (k + 1) h (by omega) (by omega)
      rwa [List.length_cons, show k + (l.length + 1) = k + 1 + l.length by omega]
    · cases h

/-! texts as lists of bytes -/
def bl (s : ByteArray) : List UInt8 := s.data.toList
theorem bs_bl (s : ByteArray) : bs (bl s) = s := rfl
theorem bl_bs (l : List UInt8) : bl (bs l) = l := rfl
theorem bl_length (s : ByteArray) : (bl s).length = s.size := by rw [bl, Array.length_toList]; rfl
theorem bl_get (s : ByteArray) {k : Nat} (h : k < s.size) : (bl s)[k]'(by rw [bl_length]; exact h) = s[k] := rfl
theorem bs_inj {a b : List UInt8} (h : bs a = bs b) : a = b := congrArg bl h
theorem bl_inj {a b : ByteArray} (h : bl a = bl b) : a = b := by rw [← bs_bl a, h]; rfl
theorem ext_bs (s : ByteArray) (f k : Nat) : s.extract f k = bs (((bl s).take k).drop f) := by
  apply bl_inj
  simp [bl, bs, ByteArray.data_extract, Array.toList_extract, List.drop_take]
/-- the pieces as texts -/
def splB (c : UInt8) (s : ByteArray) : List ByteArray := (spl c (bl s)).map bs
theorem splB_piece {c : UInt8} {s p : ByteArray} (h : p ∈ splB c s) : p.size ≤ s.size := by
  obtain ⟨q, hq, rfl⟩ := List.mem_map.1 h
  rw [bs_size, ← bl_length]
  exact spl_piece c _ _ hq
theorem splB_length (c : UInt8) (s : ByteArray) : (splB c s).length ≤ s.size + 1 := by
  rw [splB, List.length_map, ← bl_length]
  exact spl_length c _
theorem splB_ne (c : UInt8) (s : ByteArray) : splB c s ≠ [] := by
  rw [splB]; intro h; exact spl_ne c _ (List.map_eq_nil_iff.1 h)
theorem splB_pos (c : UInt8) (s : ByteArray) : 0 < (splB c s).length := List.length_pos_iff.2 (splB_ne c s)
/-- what a loop that divides knows at place k: 'ds' are the pieces so far, the last cut began at f -/
def SplI (c : UInt8) (s : ByteArray) (f k : Nat) (ds : List ByteArray) : Prop := ds ++ (jh (((bl s).take k).drop f) (spl c ((bl s).drop k))).map bs = splB c s
theorem SplI.start (c : UInt8) (s : ByteArray) : SplI c s 0 0 [] := by simp [SplI, splB, jh_nil (spl_ne c _)]
theorem SplI.step {c : UInt8} {s : ByteArray} {f k : Nat} {ds : List ByteArray} (h : SplI c s f k ds) (hk : k < s.size) (hf : f ≤ k) (hc : s[k] ≠ c) : SplI c s f (k + 1) ds := by
  unfold SplI at h ⊢
  have hk' : k < (bl s).length := by rw [bl_length]; exact hk
  rw [spl_step hk' (by rw [bl_get s hk]; exact hc)] at h
  rw [← h, List.take_succ_eq_append_getElem hk', List.drop_append_of_le_length (by simp; omega)]
theorem SplI.cut {c : UInt8} {s : ByteArray} {f k : Nat} {ds : List ByteArray} (h : SplI c s f k ds) (hk : k < s.size) (hc : s[k] = c) : SplI c s (k + 1) (k + 1) (ds ++ [s.extract f k]) := by
  unfold SplI at h ⊢
  have hk' : k < (bl s).length := by rw [bl_length]; exact hk
  rw [spl_cut hk' (by rw [bl_get s hk]; exact hc)] at h
  rw [← h, List.drop_eq_nil_of_le (as := (bl s).take (k + 1)) (i := k + 1) (by simp; omega), jh_nil (spl_ne c _), ext_bs]
  simp
theorem SplI.last {c : UInt8} {s : ByteArray} {f k : Nat} {ds : List ByteArray} (h : SplI c s f k ds) (hk : ¬ k < s.size) : ds ++ [s.extract f k] = splB c s := by
  unfold SplI at h
  rw [spl_last (by rw [bl_length]; exact hk)] at h
  rw [← h, ext_bs]
  simp
end Go.Proofs.YtgehnacmgofobaaDoor
