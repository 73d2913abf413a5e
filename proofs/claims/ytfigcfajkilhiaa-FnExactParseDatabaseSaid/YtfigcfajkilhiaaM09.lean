/- Contracts of functions that the statements reach, joined from several texts: PlJoin, IntPl, RelFPl, Fmt, Split, Split2, IntRd, FmtR, FmtD, PList, ParR, IntRdS, ParRS. -/
import Derived.Test.YtfigcfajkilhiaaM07
import Derived.Test.YtfigcfajkilhiaaM01
import Derived.Test.YtfigcfajkilhiaaM02
import Derived.Test.YtfigcfajkilhiaaRows
import Derived.RegionTactic
import Derived.Test.YtfigcfajkilhiaaM03
import Derived.Deep.RegionLaw
import Derived.Test.YtfigcfajkilhiaaM04
import Derived.Test.YtfigcfajkilhiaaM05
/- Texts joined by a byte and divided at it: the one undoes the other. Plain. -/
namespace Go.Proofs.Ytfigcfajkilhiaa
open Go.RowKit

theorem bl_app (a b : ByteArray) : bl (a ++ b) = bl a ++ bl b := by simp [bl]
def jl (c : UInt8) : List (List UInt8) → List UInt8
  | [] => []
  | [p] => p
  | p :: q :: ps => p ++ c :: jl c (q :: ps)
theorem spl_jl {c : UInt8} : ∀ {ps : List (List UInt8)}, ps ≠ [] → (∀ p ∈ ps, ∀ x ∈ p, x ≠ c) → spl c (jl c ps) = ps
  | [], h, _ => absurd rfl h
  | [p], _, h => by rw [jl]; exact spl_none (h p (by simp))
  | p :: q :: ps, _, h => by
    rw [jl, spl_two (h p (by simp)), spl_jl (ps := q :: ps) (by simp) (fun r hr => h r (List.mem_cons_of_mem _ hr))]
theorem jl_jh {c : UInt8} {p : List UInt8} : ∀ {L : List (List UInt8)}, L ≠ [] → jl c (jh p L) = p ++ jl c L
  | [], h => absurd rfl h
  | [q], _ => by simp [jh, jl]
  | q :: r :: L, _ => by simp [jh, jl]
theorem jl_spl {c : UInt8} : ∀ l : List UInt8, jl c (spl c l) = l
  | [] => by simp [spl, jl]
  | x :: l => by
    by_cases h : x = c
    · subst h
      rw [spl_sep]
      obtain ⟨q, L, e⟩ := List.exists_cons_of_ne_nil (spl_ne x l)
      rw [e, jl, ← e, jl_spl l]
      rfl
    · rw [spl_other h, jl_jh (spl_ne c l), jl_spl l]
      rfl
theorem joinF_pos {c : UInt8} : ∀ (ps : List ByteArray) (k : Nat) (acc : ByteArray), 0 < k → bl (joinF ⟨#[c]⟩ k acc ps) = bl acc ++ (ps.map fun p => c :: bl p).flatten
  | [], k, acc, _ => by simp [joinF]
  | p :: ps, k, acc, h => by
    rw [joinF, if_pos h, joinF_pos ps (k + 1) _ (by omega), bl_app, bl_app]
    simp
    rfl
theorem jl_flat {c : UInt8} (p : List UInt8) : ∀ ps : List (List UInt8), jl c (p :: ps) = p ++ (ps.map fun p => c :: p).flatten
  | [] => by simp [jl]
  | q :: ps => by rw [jl, jl_flat q ps]; simp
theorem joinF_jl {c : UInt8} (ps : List ByteArray) : bl (joinF ⟨#[c]⟩ 0 ⟨#[]⟩ ps) = jl c (ps.map bl) := by
  cases ps with
  | nil => rfl
  | cons p ps =>
    rw [joinF, if_neg (by omega), joinF_pos ps 1 _ (by omega), bl_app, List.map_cons, jl_flat, List.map_map]
    rfl
theorem splB_joinF {c : UInt8} {ps : List ByteArray} (h : ps ≠ []) (hc : ∀ p ∈ ps, ∀ x ∈ bl p, x ≠ c) : splB c (joinF ⟨#[c]⟩ 0 ⟨#[]⟩ ps) = ps := by
  unfold splB
  rw [joinF_jl, spl_jl (by simpa using h)]
  · rw [List.map_map]
    conv => rhs; rw [← List.map_id ps]
    rfl
  · intro p hp
    obtain ⟨q, hq, rfl⟩ := List.mem_map.1 hp
    exact hc q hq
theorem joinF_splB (c : UInt8) (s : ByteArray) : joinF ⟨#[c]⟩ 0 ⟨#[]⟩ (splB c s) = s := by
  apply bl_inj
  rw [joinF_jl]
  unfold splB
  rw [List.map_map]
  rw [show (bl ∘ bs) = id from rfl, List.map_id, jl_spl]
end Go.Proofs.Ytfigcfajkilhiaa

/- Numbers read from text, the program's way and the reference's. Plain: no program in it. -/
namespace Go.Proofs.Ytfigcfajkilhiaa
open Go.RowKit

/-- the sign and the digits -/
def sgI (l : List UInt8) : Bool × List UInt8 := if l.head? = some 45 then (true, l.tail) else (false, l)
def sg1 (b : Bool) (n : Int) : Int := if b = true then -n else n
def pInt (s : ByteArray) : Option Int := match numG 0 (sgI (bl s)).2 with
  | none => none
  | some n => if (sgI (bl s)).2.length ≤ 9 ∧ decI (sg1 (sgI (bl s)).1 n) = s then some (sg1 (sgI (bl s)).1 n) else none
theorem sgI_dec (n : Nat) : sgI (dec n) = (false, dec n) := by
  unfold sgI
  rw [if_neg]
  intro h
  have hm : (45 : UInt8) ∈ dec n := List.mem_of_mem_head? h
  exact isD_ne (dec_isD n _ hm) (by decide) rfl
theorem sgI_decI (z : Int) : sgI (bl (decI z)) = (decide (z < 0), dec z.natAbs) := by
  unfold decI
  split
  · rename_i h
    rw [bl_bs, decide_eq_true h]
    rfl
  · rename_i h
    rw [bl_bs, sgI_dec, decide_eq_false h]
theorem sg1_abs (z : Int) : sg1 (decide (z < 0)) (z.natAbs : Int) = z := by
  unfold sg1
  by_cases h : z < 0
  · rw [decide_eq_true h, if_pos rfl]; omega
  · rw [decide_eq_false h, if_neg (by decide)]; omega
theorem pw9 {k : Nat} (h : k ≤ 9) : (10 : Int) ^ k ≤ 1000000000 := by
  have : (10 : Nat) ^ k ≤ 10 ^ 9 := Nat.pow_le_pow_right (by omega) h
  have h2 : ((10 ^ k : Nat) : Int) ≤ ((10 ^ 9 : Nat) : Int) := by exact_mod_cast this
  simpa using h2
theorem sg1_lt {b : Bool} {n : Int} (h0 : 0 ≤ n) (h : n < 1000000000) : (sg1 b n).natAbs < 1000000000 := by
  unfold sg1
  split <;> omega
theorem pInt_iff {s : ByteArray} {z : Int} : pInt s = some z ↔ z.natAbs < 1000000000 ∧ decI z = s := by
  constructor
  · intro h
    unfold pInt at h
    split at h
    · cases h
    · rename_i n hn
      split at h
      · rename_i hc
        injection h with h
        subst h
        refine ⟨?_, hc.2⟩
        have h1 := numG_le _ 0 n 0 hn (by omega) (by decide)
        have h2 := pw9 (k := 0 + (sgI (bl s)).2.length) (by omega)
        exact sg1_lt h1.1 (by omega)
      · cases h
  · rintro ⟨h1, rfl⟩
    have hl := dec_length 9 z.natAbs (by omega) h1
    unfold pInt
    rw [sgI_decI]
    simp only [numG_dec, sg1_abs]
    rw [if_pos ⟨hl, trivial⟩]
theorem pInt_decI {z : Int} (h : z.natAbs < 1000000000) : pInt (decI z) = some z := pInt_iff.2 ⟨h, rfl⟩
theorem pInt_empty {s : ByteArray} (h : (sgI (bl s)).2 = []) : pInt s = none := by
  cases e : pInt s with
  | none => rfl
  | some z =>
    obtain ⟨_, rfl⟩ := pInt_iff.1 e
    rw [sgI_decI] at h
    exact absurd h (dec_ne _)
theorem pInt_long {s : ByteArray} (h : 9 < (sgI (bl s)).2.length) : pInt s = none := by
  unfold pInt
  split
  · rfl
  · rw [if_neg (by omega)]
theorem pInt_bad {s : ByteArray} (h : numG 0 (sgI (bl s)).2 = none) : pInt s = none := by
  unfold pInt
  rw [h]
theorem pInt_num {s : ByteArray} {n : Int} (h : numG 0 (sgI (bl s)).2 = some n) (hl : (sgI (bl s)).2.length ≤ 9) : pInt s = if decI (sg1 (sgI (bl s)).1 n) = s then some (sg1 (sgI (bl s)).1 n) else none := by
  unfold pInt
  rw [h]
  simp only [hl, true_and]
theorem pInt_bd {s : ByteArray} {z : Int} (h : pInt s = some z) : -1000000000 < z ∧ z < 1000000000 := by
  have := (pInt_iff.1 h).1
  omega
theorem pIntG_bd (s : ByteArray) : -1000000000 < (pInt s).getD 0 ∧ (pInt s).getD 0 < 1000000000 := by
  cases h : pInt s with
  | none => simp
  | some z => exact pInt_bd h
/-! the reference's way: the digits among the first eleven bytes -/
def dgG : Int → Nat → List UInt8 → Int × Nat
  | n, k, [] => (n, k)
  | n, k, b :: l => if isD b = true then dgG (n * 10 + ((b.toNat : Int) - 48)) (k + 1) l else dgG n k l
theorem dgG_digs : ∀ (l : List UInt8) (n : Int) (k : Nat), (∀ x ∈ l, isD x = true) → ∃ m, numG n l = some m ∧ dgG n k l = (m, k + l.length)
  | [], n, k, _ => ⟨n, rfl, rfl⟩
  | b :: l, n, k, h => by
    obtain ⟨m, h1, h2⟩ := dgG_digs l (n * 10 + ((b.toNat : Int) - 48)) (k + 1) (fun x hx => h x (by simp [hx]))
    refine ⟨m, ?_, ?_⟩
    · rw [numG, if_pos (h b (by simp)), show 10 * n + ((b.toNat : Int) - 48) = n * 10 + ((b.toNat : Int) - 48) by omega, h1]
    · rw [dgG, if_pos (h b (by simp)), h2, List.length_cons]
      congr 1; omega
theorem dgG_bd : ∀ (l : List UInt8) (n : Int) (k : Nat), 0 ≤ n → n < 10 ^ k → 0 ≤ (dgG n k l).1 ∧ (dgG n k l).1 < 10 ^ (dgG n k l).2 ∧ (dgG n k l).2 ≤ k + l.length
  | [], n, k, h0, h1 => ⟨h0, h1, by simp [dgG]⟩
  | b :: l, n, k, h0, h1 => by
    rw [dgG]
    split
    · rename_i hd
      have hd : 48 ≤ b.toNat ∧ b.toNat ≤ 57 := by simpa [isD] using hd
      have h2 : (10 : Int) ^ (k + 1) = 10 ^ k * 10 := Int.pow_succ 10 k
      obtain ⟨a, b, c⟩ := dgG_bd l (n * 10 + ((b.toNat : Int) - 48)) (k + 1) (by omega) (by omega)
      exact ⟨a, b, by rw [List.length_cons]; omega⟩
    · obtain ⟨a, b, c⟩ := dgG_bd l n k h0 h1
      exact ⟨a, b, by rw [List.length_cons]; omega⟩
/-- the number that the reference makes of a text -/
def pIz (s : ByteArray) : Int := sg1 (decide ((bl s).head? = some 45)) (dgG 0 0 ((bl s).take 11)).1
theorem pIs_eq (s : ByteArray) : pInt s = if (dgG 0 0 ((bl s).take 11)).2 ≤ 9 ∧ s.size ≤ 10 ∧ decI (pIz s) = s then some (pIz s) else none := by
  cases h : pInt s with
  | some z =>
    obtain ⟨h1, rfl⟩ := pInt_iff.1 h
    have hl := dec_length 9 z.natAbs (by omega) h1
    obtain ⟨m, e1, e2⟩ := dgG_digs (dec z.natAbs) 0 0 (dec_isD _)
    rw [numG_dec] at e1
    injection e1 with e1
    subst e1
    have hd : dgG 0 0 ((bl (decI z)).take 11) = ((z.natAbs : Int), (dec z.natAbs).length) ∧ (bl (decI z)).head? = (if z < 0 then some 45 else (dec z.natAbs).head?) ∧ (bl (decI z)).length ≤ 10 := by
      unfold decI
      split
      · rw [bl_bs, List.take_of_length_le (by simp; omega), dgG, if_neg (by decide), e2]
        exact ⟨by simp, rfl, by simp; omega⟩
      · rw [bl_bs, List.take_of_length_le (by omega), e2]
        exact ⟨by simp, rfl, by omega⟩
    obtain ⟨d1, d2, d3⟩ := hd
    have hz : pIz (decI z) = z := by
      unfold pIz
      rw [d1, d2]
      by_cases hn : z < 0
      · rw [if_pos hn, decide_eq_true rfl]
        unfold sg1
        simp only [if_true]
        omega
      · rw [if_neg hn, decide_eq_false]
        · unfold sg1
          simp only [Bool.false_eq_true, if_false]
          omega
        · intro h
          have hm : (45 : UInt8) ∈ dec z.natAbs := List.mem_of_mem_head? h
          exact isD_ne (dec_isD _ _ hm) (by decide) rfl
    rw [d1, hz, if_pos ⟨hl, by rw [← bl_length]; exact d3, rfl⟩]
  | none =>
    rw [if_neg]
    rintro ⟨h1, _, h3⟩
    have h4 := dgG_bd ((bl s).take 11) 0 0 (by omega) (by decide)
    have h5 := pw9 h1
    have h6 : (pIz s).natAbs < 1000000000 := sg1_lt h4.1 (by omega)
    rw [pInt_iff.2 ⟨h6, h3⟩] at h
    cases h
theorem pIz_bd (s : ByteArray) : -100000000000 < pIz s ∧ pIz s < 100000000000 := by
  have h4 := dgG_bd ((bl s).take 11) 0 0 (by omega) (by decide)
  have h5 : (10 : Nat) ^ (dgG 0 0 ((bl s).take 11)).2 ≤ 10 ^ 11 := Nat.pow_le_pow_right (by omega) (by have := h4.2.2; simp at this; omega)
  have h6 : ((10 ^ (dgG 0 0 ((bl s).take 11)).2 : Nat) : Int) ≤ ((10 ^ 11 : Nat) : Int) := by exact_mod_cast h5
  simp only [Int.natCast_pow] at h6
  have h7 : (((10 : Nat) : Int)) = 10 := rfl
  rw [h7] at h6
  unfold pIz sg1
  split <;> omega
theorem dgG_step {n : Int} {k : Nat} {l : List UInt8} {i : Nat} (h : i < l.length) (hd : isD l[i] = true) : dgG n k (l.drop i) = dgG (n * 10 + ((l[i].toNat : Int) - 48)) (k + 1) (l.drop (i + 1)) := by
  rw [List.drop_eq_getElem_cons h, dgG, if_pos hd]
theorem dgG_skip {n : Int} {k : Nat} {l : List UInt8} {i : Nat} (h : i < l.length) (hd : isD l[i] = false) : dgG n k (l.drop i) = dgG n k (l.drop (i + 1)) := by
  rw [List.drop_eq_getElem_cons h, dgG, if_neg (by simp [hd])]
theorem numL_step {n : Int} {l : List UInt8} {i : Nat} (h : i < l.length) (hd : isD l[i] = true) : numG n (l.drop i) = numG (10 * n + ((l[i].toNat : Int) - 48)) (l.drop (i + 1)) := by
  rw [List.drop_eq_getElem_cons h, numG, if_pos hd]
theorem numL_stop {n : Int} {l : List UInt8} {i : Nat} (h : i < l.length) (hd : isD l[i] = false) : numG n (l.drop i) = none := by
  rw [List.drop_eq_getElem_cons h, numG, if_neg (by simp [hd])]
theorem numL_end {n : Int} {l : List UInt8} {i : Nat} (h : ¬ i < l.length) : numG n (l.drop i) = some n := by
  rw [List.drop_eq_nil_of_le (by omega), numG]
theorem decI_by (z : Int) : ∀ x ∈ bl (decI z), isD x = true ∨ x = 45 := by
  intro x hx
  unfold decI at hx
  split at hx
  · rw [bl_bs] at hx
    rcases List.mem_cons.1 hx with e | e
    · exact .inr e
    · exact .inl (dec_isD _ x e)
  · rw [bl_bs] at hx
    exact .inl (dec_isD _ x hx)
theorem decI_not {c : UInt8} (h : isD c = false) (h2 : c ≠ 45) (z : Int) : ∀ x ∈ bl (decI z), x ≠ c := fun x hx => by
  rcases decI_by z x hx with e | e
  · exact isD_ne e h
  · rw [e]; exact h2.symm
theorem decI_ne (z : Int) : 1 ≤ (decI z).size := by
  have h1 := List.length_pos_iff.2 (dec_ne z.natAbs)
  unfold decI
  split <;> rw [bs_size] <;> simp <;> omega
end Go.Proofs.Ytfigcfajkilhiaa

/- Relations and databases as text: plain laws; the program's way and the reference's read the same. -/
namespace Go.Proofs.Ytfigcfajkilhiaa
open Go.RowKit

theorem ba3 (a b c : ByteArray) : a ++ b ++ c = a ++ (b ++ c) := bl_inj (by simp [bl])
theorem ba0 (a : ByteArray) : a ++ ⟨#[]⟩ = a := bl_inj (by simp [bl])
theorem ba00 (a : ByteArray) : ⟨#[]⟩ ++ a = a := bl_inj (by simp [bl])
theorem joinF_ac (sep : ByteArray) : ∀ (ps : List ByteArray) (k : Nat) (acc : ByteArray), joinF sep k acc ps = acc ++ joinF sep k ⟨#[]⟩ ps
  | [], k, acc => by rw [joinF, joinF, ba0]
  | p :: ps, k, acc => by
    rw [joinF, joinF, joinF_ac sep ps, joinF_ac sep ps (k + 1) (_ ++ p)]
    split
    · rw [ba00]; simp only [ba3]
    · rw [ba00]; simp only [ba3]
/-- a row's text, a relation's, a table's, a database's -/
def rowTx (r : List Int) : ByteArray := ⟨#[40]⟩ ++ joinF ⟨#[44]⟩ 0 ⟨#[]⟩ (r.map decI) ++ ⟨#[41]⟩
def relTx (r : Rd) : ByteArray := decI r.1 ++ ⟨#[58]⟩ ++ joinF ⟨#[32]⟩ 0 ⟨#[]⟩ (r.2.map rowTx)
def fmtR (r : Rd) : ByteArray := if rowsB r.1 r.2 = true then relTx r else ⟨#[]⟩
def lineT (t : Td) : ByteArray := t.1 ++ ⟨#[61]⟩ ++ fmtR t.2
def fdG : ByteArray → Dbd → ByteArray
  | acc, [] => acc
  | acc, t :: d => fdG (acc ++ (lineT t ++ ⟨#[10]⟩)) d
def fmtD (d : Dbd) : ByteArray := if dbB d = true then fdG ⟨#[]⟩ d else ⟨#[]⟩
theorem fdG_step {acc : ByteArray} {d : Dbd} {k : Nat} (h : k < d.length) : fdG acc (d.drop k) = fdG (acc ++ (lineT d[k] ++ ⟨#[10]⟩)) (d.drop (k + 1)) := by
  rw [List.drop_eq_getElem_cons h, fdG]
theorem fdG_end {acc : ByteArray} {d : Dbd} {k : Nat} (h : ¬ k < d.length) : fdG acc (d.drop k) = acc := by
  rw [List.drop_eq_nil_of_le (by omega), fdG]
/-! read: the program's way -/
def plG : List Int → List ByteArray → Option (List Int)
  | acc, [] => some acc
  | acc, w :: ws => match pInt w with
    | none => none
    | some n => plG (acc ++ [n]) ws
def pList (s : ByteArray) : Option (List Int) := if s.size = 0 then some [] else plG [] (splB 44 s)
def prG : List (List Int) → List ByteArray → Option (List (List Int))
  | acc, [] => some acc
  | acc, w :: ws => if w.size < 2 then none else match pList (w.extract 1 (w.size - 1)) with
    | none => none
    | some r => prG (acc ++ [r]) ws
def finR (r : Rd) (s : ByteArray) : Option Rd := if fmtR r = s ∧ s.size ≠ 0 then some r else none
def pRel (s : ByteArray) : Option Rd := match pInt ((splB 58 s).getD 0 ⟨#[]⟩) with
  | none => none
  | some a => if (splB 58 s).length = 2 then (if ((splB 58 s).getD 1 ⟨#[]⟩).size = 0 then finR (a, []) s else match prG [] (splB 32 ((splB 58 s).getD 1 ⟨#[]⟩)) with
    | none => none
    | some rows => finR (a, rows) s) else none
def pdG : Dbd → List ByteArray → Option Dbd
  | acc, [] => some acc
  | acc, l :: ls => if (splB 61 l).length = 2 then (match pRel ((splB 61 l).getD 1 ⟨#[]⟩) with
    | none => none
    | some r => pdG (acc ++ [((splB 61 l).getD 0 ⟨#[]⟩, r)]) ls) else none
def finD (d : Dbd) (s : ByteArray) : Option Dbd := if fmtD d = s then some d else none
def pDb (s : ByteArray) : Option Dbd := match pdG [] (splB 10 s).dropLast with
  | none => none
  | some d => finD d s
/-! the reference's way -/
def rowS (w : ByteArray) : List Int := if 2 < w.size then (splB 44 (w.extract 1 (w.size - 1))).map (fun v => (pInt v).getD 0) else []
def sRows (s : ByteArray) : List (List Int) := if (splB 58 s).length = 2 ∧ ((splB 58 s).getD 1 ⟨#[]⟩).size ≠ 0 then (splB 32 ((splB 58 s).getD 1 ⟨#[]⟩)).map rowS else []
def pRelS (s : ByteArray) : Option Rd := finR ((pInt ((splB 58 s).getD 0 ⟨#[]⟩)).getD 0, sRows s) s
def lastB (L : List ByteArray) : ByteArray := L.getD (L.length - 1) ⟨#[]⟩
def pdS : Dbd → List ByteArray → Option Dbd
  | acc, [] => some acc
  | acc, l :: ls => match pRel (lastB (splB 61 l)) with
    | none => none
    | some r => pdS (acc ++ [((splB 61 l).getD 0 ⟨#[]⟩, r)]) ls
def pDbS (s : ByteArray) : Option Dbd := match pdS [] (splB 10 s).dropLast with
  | none => none
  | some d => if dbB d = true ∧ fmtD d = s then some d else none

theorem relTx_size (r : Rd) : 1 ≤ (relTx r).size := by
  unfold relTx
  rw [ba_size, ba_size]
  have := decI_ne r.1
  omega
theorem finR_some {d q : Rd} {s : ByteArray} (h : finR d s = some q) : d = q ∧ rowsB q.1 q.2 = true ∧ fmtR q = s := by
  unfold finR at h
  split at h
  · rename_i h1
    injection h with h
    subst h
    refine ⟨rfl, ?_, h1.1⟩
    cases hv : rowsB d.1 d.2 with
    | true => rfl
    | false =>
      refine absurd ?_ h1.2
      rw [← h1.1]
      unfold fmtR
      rw [hv]
      rfl
  · cases h
theorem finR_self {d : Rd} (h : rowsB d.1 d.2 = true) : finR d (fmtR d) = some d := by
  have hs : (fmtR d).size ≠ 0 := by
    unfold fmtR
    rw [if_pos h]
    have := relTx_size d
    omega
  unfold finR
  rw [if_pos ⟨rfl, hs⟩]
theorem pRel_some {s : ByteArray} {d : Rd} (h : pRel s = some d) : rowsB d.1 d.2 = true ∧ fmtR d = s := by
  unfold pRel at h
  split at h
  · cases h
  · split at h
    · split at h
      · exact (finR_some h).2
      · split at h
        · cases h
        · exact (finR_some h).2
    · cases h
theorem pRelS_some {s : ByteArray} {d : Rd} (h : pRelS s = some d) : rowsB d.1 d.2 = true ∧ fmtR d = s := (finR_some h).2
/-! sizes -/
theorem rowTx_size (r : List Int) : (rowTx r).size = (joinF ⟨#[44]⟩ 0 ⟨#[]⟩ (r.map decI)).size + 2 := by
  unfold rowTx
  rw [ba_size, ba_size, show (ByteArray.mk #[40]).size = 1 from rfl, show (ByteArray.mk #[41]).size = 1 from rfl]
  omega
theorem joinF_sz {c : UInt8} (m : Nat) : ∀ (ps : List ByteArray) (k : Nat) (acc : ByteArray), (∀ p ∈ ps, p.size ≤ m) → (joinF ⟨#[c]⟩ k acc ps).size ≤ acc.size + ps.length * (m + 1)
  | [], k, acc, _ => by simp [joinF]
  | p :: ps, k, acc, h => by
    have h1 := h p (by simp)
    have ih := joinF_sz (c := c) m ps (k + 1) ((if 0 < k then acc ++ ⟨#[c]⟩ else acc) ++ p) fun q hq => h q (by simp [hq])
    have h2 : ((if 0 < k then acc ++ ⟨#[c]⟩ else acc) ++ p).size ≤ acc.size + 1 + p.size := by
      rw [ba_size]
      split
      · rw [ba_size, show (ByteArray.mk #[c]).size = 1 from rfl]; omega
      · omega
    rw [joinF, List.length_cons, Nat.add_mul]
    omega
structure SzR (d : Rd) : Prop where
  a : I64 d.1
  n : d.2.length ≤ 4000
  rl : ∀ r ∈ d.2, r.length ≤ 5
  rv : ∀ r ∈ d.2, ∀ v ∈ r, 0 ≤ v ∧ v ≤ 99
theorem rowsB_sz {d : Rd} (h : rowsB d.1 d.2 = true) : SzR d := by
  obtain ⟨h1, h2, h3, h4, _⟩ := rowsB_iff.1 h
  refine ⟨⟨by omega, by omega⟩, h3, fun r hr => by have := (h4 r hr).1; omega, fun r hr v hv => ?_⟩
  have := (h4 r hr).2
  unfold rowV at this
  rw [List.all_eq_true] at this
  exact inB_t (this v hv)
theorem nums_sz {r : List Int} (h : r.length ≤ 5) (hv : ∀ v ∈ r, 0 ≤ v ∧ v ≤ 99) (j : Nat) : (joinF ⟨#[44]⟩ 0 ⟨#[]⟩ ((r.take j).map decI)).size ≤ 105 := by
  have := joinF_sz (c := 44) 20 ((r.take j).map decI) 0 ⟨#[]⟩ (fun p hp => by
    obtain ⟨v, hm, rfl⟩ := List.mem_map.1 hp
    have := hv v (List.mem_of_mem_take hm)
    exact decI_size (by omega) (by omega))
  rw [List.length_map, show (ByteArray.mk #[]).size = 0 from rfl] at this
  have h2 : (r.take j).length ≤ 5 := by simp; omega
  omega
theorem rowTx_sz {r : List Int} (h : r.length ≤ 5) (hv : ∀ v ∈ r, 0 ≤ v ∧ v ≤ 99) : (rowTx r).size ≤ 107 := by
  have := nums_sz h hv r.length
  rw [List.take_length] at this
  rw [rowTx_size]
  omega
theorem relTx_sz {d : Rd} (h : SzR d) : (relTx d).size ≤ 21 + 108 * d.2.length := by
  have := joinF_sz (c := 32) 107 (d.2.map rowTx) 0 ⟨#[]⟩ (fun p hp => by
    obtain ⟨r, hr, rfl⟩ := List.mem_map.1 hp
    exact rowTx_sz (h.rl r hr) (h.rv r hr))
  rw [List.length_map, show (ByteArray.mk #[]).size = 0 from rfl] at this
  have h2 := decI_size h.a.1 h.a.2
  unfold relTx
  rw [ba_size, ba_size, show (ByteArray.mk #[58]).size = 1 from rfl]
  omega
theorem fmtR_sz (d : Rd) : (fmtR d).size ≤ 432021 := by
  unfold fmtR
  split
  · rename_i h
    have h1 := relTx_sz (rowsB_sz h)
    have h2 := (rowsB_sz h).n
    omega
  · decide
theorem lineT_sz {t : Td} (h : TOk t) : (lineT t).size ≤ 1754 := by
  have h1 := relTx_sz (rowsB_sz h.rel)
  have h2 := h.cnt
  have h3 : t.1.size ≤ 4 := by
    have := h.nm
    unfold nameB at this
    rw [Bool.and_eq_true] at this
    have := inB_t this.1
    omega
  unfold lineT fmtR
  rw [if_pos h.rel, ba_size, ba_size, show (ByteArray.mk #[61]).size = 1 from rfl]
  omega
/-! the text of a valid relation -/
structure OkR (d : Rd) : Prop where
  a : d.1.natAbs < 1000000000
  v : ∀ r ∈ d.2, ∀ v ∈ r, v.natAbs < 1000000000
theorem rowsB_ok {d : Rd} (h : rowsB d.1 d.2 = true) : OkR d := by
  obtain ⟨h1, h2, _, h3, _⟩ := rowsB_iff.1 h
  refine ⟨by omega, fun r hr v hv => ?_⟩
  have := (h3 r hr).2
  unfold rowV at this
  rw [List.all_eq_true] at this
  have := inB_t (this v hv)
  omega
def TxB (x : UInt8) : Prop := isD x = true ∨ x = 45 ∨ x = 40 ∨ x = 41 ∨ x = 44
theorem jl_mem2 {c y : UInt8} : ∀ {ps : List (List UInt8)}, y ∈ jl c ps → y = c ∨ ∃ p ∈ ps, y ∈ p
  | [], h => by simp [jl] at h
  | [p], h => .inr ⟨p, by simp, by simpa [jl] using h⟩
  | p :: q :: ps, h => by
    rw [jl] at h
    rcases List.mem_append.1 h with h | h
    · exact .inr ⟨p, by simp, h⟩
    · rcases List.mem_cons.1 h with h | h
      · exact .inl h
      · rcases jl_mem2 (ps := q :: ps) h with h | ⟨r, hr, h⟩
        · exact .inl h
        · exact .inr ⟨r, List.mem_cons_of_mem _ hr, h⟩
theorem bl_rowTx (r : List Int) : bl (rowTx r) = 40 :: (jl 44 ((r.map decI).map bl) ++ [41]) := by
  unfold rowTx
  rw [bl_app, bl_app, joinF_jl]
  rfl
theorem nums_by {r : List Int} : ∀ x ∈ jl 44 ((r.map decI).map bl), isD x = true ∨ x = 45 ∨ x = 44 := by
  intro x hx
  rcases jl_mem2 hx with e | ⟨p, hp, hx⟩
  · exact .inr (.inr e)
  · simp only [List.map_map, List.mem_map] at hp
    obtain ⟨z, _, rfl⟩ := hp
    rcases decI_by z x hx with e | e
    · exact .inl e
    · exact .inr (.inl e)
theorem rowTx_by (r : List Int) : ∀ x ∈ bl (rowTx r), TxB x := by
  intro x hx
  rw [bl_rowTx] at hx
  rcases List.mem_cons.1 hx with e | hx
  · exact .inr (.inr (.inl e))
  · rcases List.mem_append.1 hx with hx | hx
    · rcases nums_by x hx with e | e | e
      · exact .inl e
      · exact .inr (.inl e)
      · exact .inr (.inr (.inr (.inr e)))
    · exact .inr (.inr (.inr (.inl (List.mem_singleton.1 hx))))
theorem TxB.ne {x c : UInt8} (h : TxB x) (hc : isD c = false) (h1 : c ≠ 45) (h2 : c ≠ 40) (h3 : c ≠ 41) (h4 : c ≠ 44) : x ≠ c := by
  rcases h with h | h | h | h | h
  · exact isD_ne h hc
  · rw [h]; exact h1.symm
  · rw [h]; exact h2.symm
  · rw [h]; exact h3.symm
  · rw [h]; exact h4.symm
theorem rows_by (rows : List (List Int)) : ∀ x ∈ bl (joinF ⟨#[32]⟩ 0 ⟨#[]⟩ (rows.map rowTx)), x = 32 ∨ TxB x := by
  intro x hx
  rw [joinF_jl] at hx
  rcases jl_mem2 hx with e | ⟨p, hp, hx⟩
  · exact .inl e
  · simp only [List.map_map, List.mem_map] at hp
    obtain ⟨r, _, rfl⟩ := hp
    exact .inr (rowTx_by r x hx)
theorem spl_rel (d : Rd) : splB 58 (relTx d) = [decI d.1, joinF ⟨#[32]⟩ 0 ⟨#[]⟩ (d.2.map rowTx)] := by
  have h2 : ∀ y ∈ bl (joinF ⟨#[32]⟩ 0 ⟨#[]⟩ (d.2.map rowTx)), y ≠ 58 := by
    intro y hy
    rcases rows_by _ y hy with e | e
    · rw [e]; decide
    · exact e.ne (by decide) (by decide) (by decide) (by decide) (by decide)
  have e : bl (relTx d) = bl (decI d.1) ++ 58 :: bl (joinF ⟨#[32]⟩ 0 ⟨#[]⟩ (d.2.map rowTx)) := by
    unfold relTx
    rw [bl_app, bl_app, List.append_assoc]
    rfl
  unfold splB
  rw [e, spl_two (decI_not (by decide) (by decide) _), spl_none h2]
  rfl
theorem spl_rows {rows : List (List Int)} (h : rows ≠ []) : splB 32 (joinF ⟨#[32]⟩ 0 ⟨#[]⟩ (rows.map rowTx)) = rows.map rowTx := by
  refine splB_joinF (by simpa using h) fun p hp y hy => ?_
  obtain ⟨r, _, rfl⟩ := List.mem_map.1 hp
  exact (rowTx_by r y hy).ne (by decide) (by decide) (by decide) (by decide) (by decide)
theorem rowTx_mid (r : List Int) : (rowTx r).extract 1 ((rowTx r).size - 1) = joinF ⟨#[44]⟩ 0 ⟨#[]⟩ (r.map decI) := by
  apply bl_inj
  rw [ext_bs, bl_bs, rowTx_size, ← bl_length, joinF_jl, bl_rowTx]
  rw [show (jl 44 ((r.map decI).map bl)).length + 2 - 1 = (jl 44 ((r.map decI).map bl)).length + 1 by omega, List.take_succ_cons, List.drop_succ_cons, List.drop_zero, List.take_left]
theorem jl_size {c : UInt8} {p : List UInt8} {ps : List (List UInt8)} (h : 1 ≤ p.length) : 1 ≤ (jl c (p :: ps)).length := by
  rw [jl_flat, List.length_append]
  omega
theorem nums_size {r : List Int} : (joinF ⟨#[44]⟩ 0 ⟨#[]⟩ (r.map decI)).size = 0 ↔ r = [] := by
  rw [← bl_length, joinF_jl]
  cases r with
  | nil => simp [jl]
  | cons z r =>
    rw [List.map_cons, List.map_cons]
    have := jl_size (c := 44) (ps := (r.map decI).map bl) (p := bl (decI z)) (by rw [bl_length]; exact decI_ne z)
    constructor
    · intro h; omega
    · intro h; cases h
theorem rows_size {rows : List (List Int)} : (joinF ⟨#[32]⟩ 0 ⟨#[]⟩ (rows.map rowTx)).size = 0 ↔ rows = [] := by
  rw [← bl_length, joinF_jl]
  cases rows with
  | nil => simp [jl]
  | cons r rows =>
    rw [List.map_cons, List.map_cons]
    have := jl_size (c := 32) (ps := (rows.map rowTx).map bl) (p := bl (rowTx r)) (by rw [bl_length, rowTx_size]; omega)
    constructor
    · intro h; omega
    · intro h; cases h
theorem spl_nums {r : List Int} (h : r ≠ []) : splB 44 (joinF ⟨#[44]⟩ 0 ⟨#[]⟩ (r.map decI)) = r.map decI := by
  refine splB_joinF (by simpa using h) fun p hp y hy => ?_
  obtain ⟨z, _, rfl⟩ := List.mem_map.1 hp
  exact decI_not (by decide) (by decide) z y hy
theorem plG_text : ∀ {r : List Int}, (∀ v ∈ r, v.natAbs < 1000000000) → ∀ acc, plG acc (r.map decI) = some (acc ++ r)
  | [], _, acc => by simp [plG]
  | v :: r, h, acc => by
    rw [List.map_cons, plG, pInt_decI (h v (by simp))]
    simp only
    rw [plG_text (fun u hu => h u (by simp [hu]))]
    simp
theorem pList_text {r : List Int} (h : ∀ v ∈ r, v.natAbs < 1000000000) : pList ((rowTx r).extract 1 ((rowTx r).size - 1)) = some r := by
  rw [rowTx_mid]
  unfold pList
  by_cases h0 : r = []
  · rw [if_pos (nums_size.2 h0), h0]
  · rw [if_neg (fun e => h0 (nums_size.1 e)), spl_nums h0, plG_text h]
    rfl
theorem rowS_text {r : List Int} (h : ∀ v ∈ r, v.natAbs < 1000000000) : rowS (rowTx r) = r := by
  have hz := nums_size (r := r)
  unfold rowS
  rw [rowTx_mid, rowTx_size]
  by_cases h0 : r = []
  · rw [if_neg (by rw [hz.2 h0]; omega), h0]
  · rw [if_pos (by have hne : (joinF ⟨#[44]⟩ 0 ⟨#[]⟩ (r.map decI)).size ≠ 0 := fun e => h0 (hz.1 e); omega), spl_nums h0, List.map_map]
    conv => rhs; rw [← List.map_id r]
    refine List.map_congr_left fun v hv => ?_
    show (pInt (decI v)).getD 0 = v
    rw [pInt_decI (h v hv)]
    rfl
theorem prG_text : ∀ {rows : List (List Int)}, (∀ r ∈ rows, ∀ v ∈ r, v.natAbs < 1000000000) → ∀ acc, prG acc (rows.map rowTx) = some (acc ++ rows)
  | [], _, acc => by simp [prG]
  | r :: rows, h, acc => by
    rw [List.map_cons, prG, if_neg (by rw [rowTx_size]; omega), pList_text (h r (by simp))]
    simp only
    rw [prG_text (fun u hu => h u (by simp [hu]))]
    simp
theorem pRel_text {d : Rd} (h : rowsB d.1 d.2 = true) : pRel (fmtR d) = some d := by
  have ok := rowsB_ok h
  have e : fmtR d = relTx d := by unfold fmtR; rw [if_pos h]
  have hs := finR_self h
  rw [e] at hs ⊢
  unfold pRel
  rw [spl_rel]
  simp only [List.getD_cons_zero, List.getD_cons_succ, List.length_cons, List.length_nil, pInt_decI ok.a, if_true]
  by_cases h0 : d.2 = []
  · rw [if_pos (rows_size.2 h0), ← hs]
    congr 1
    exact Prod.ext rfl h0.symm
  · rw [if_neg (fun e => h0 (rows_size.1 e)), spl_rows h0, prG_text ok.v]
    exact hs
theorem pRelS_text {d : Rd} (h : rowsB d.1 d.2 = true) : pRelS (fmtR d) = some d := by
  have ok := rowsB_ok h
  have e : fmtR d = relTx d := by unfold fmtR; rw [if_pos h]
  have hs := finR_self h
  rw [e] at hs ⊢
  have er : sRows (relTx d) = d.2 := by
    unfold sRows
    rw [spl_rel]
    simp only [List.getD_cons_zero, List.getD_cons_succ, List.length_cons, List.length_nil]
    by_cases h0 : d.2 = []
    · rw [if_neg (by simp [rows_size.2 h0]), h0]
    · rw [if_pos ⟨trivial, fun e => h0 (rows_size.1 e)⟩, spl_rows h0, List.map_map]
      conv => rhs; rw [← List.map_id d.2]
      exact List.map_congr_left fun r hr => rowS_text (ok.v r hr)
  unfold pRelS
  rw [er, spl_rel]
  simp only [List.getD_cons_zero, pInt_decI ok.a, Option.getD_some]
  exact hs
theorem pRelS_eq (s : ByteArray) : pRelS s = pRel s := by
  cases h : pRel s with
  | some r =>
    obtain ⟨h1, rfl⟩ := pRel_some h
    exact pRelS_text h1
  | none =>
    cases h2 : pRelS s with
    | none => rfl
    | some r =>
      obtain ⟨h1, rfl⟩ := pRelS_some h2
      rw [pRel_text h1] at h
      cases h
/-! databases -/
theorem fdG_eq : ∀ (d : Dbd) (acc : ByteArray), bl (fdG acc d) = bl acc ++ ((d.map fun t => bl (lineT t)).map (· ++ [10])).flatten
  | [], acc => by simp [fdG]
  | t :: d, acc => by
    rw [fdG, fdG_eq d, bl_app, bl_app]
    simp
    rfl
theorem spl_lines {c : UInt8} : ∀ {ls : List (List UInt8)}, (∀ l ∈ ls, ∀ x ∈ l, x ≠ c) → spl c (ls.map (· ++ [c])).flatten = ls ++ [[]]
  | [], _ => by simp [spl]
  | l :: ls, h => by
    rw [List.map_cons, List.flatten_cons, List.append_assoc, List.singleton_append, spl_two (h l (by simp)), spl_lines (fun k hk => h k (by simp [hk]))]
    rfl
theorem name_let {s : ByteArray} (h : nameB s = true) : ∀ x ∈ bl s, letB x = true := by
  unfold nameB at h
  rw [Bool.and_eq_true, List.all_eq_true] at h
  exact h.2
theorem let_no {x c : UInt8} (h : letB x = true) (hc : letB c = false) : x ≠ c := by
  rintro rfl
  rw [h] at hc
  cases hc
theorem relTx_by (d : Rd) : ∀ x ∈ bl (relTx d), x = 32 ∨ x = 58 ∨ TxB x := by
  intro x hx
  unfold relTx at hx
  rw [bl_app, bl_app] at hx
  rcases List.mem_append.1 hx with hx | hx
  · rcases List.mem_append.1 hx with hx | hx
    · rcases decI_by d.1 x hx with e | e
      · exact .inr (.inr (.inl e))
      · exact .inr (.inr (.inr (.inl e)))
    · exact .inr (.inl (List.mem_singleton.1 hx))
  · rcases rows_by _ x hx with e | e
    · exact .inl e
    · exact .inr (.inr e)
theorem relTx_ne {d : Rd} : ∀ x ∈ bl (relTx d), x ≠ 10 ∧ x ≠ 61 := by
  intro x hx
  rcases relTx_by d x hx with e | e | e
  · rw [e]; decide
  · rw [e]; decide
  · exact ⟨e.ne (by decide) (by decide) (by decide) (by decide) (by decide), e.ne (by decide) (by decide) (by decide) (by decide) (by decide)⟩
theorem bl_lineT {t : Td} (h : TOk t) : bl (lineT t) = bl t.1 ++ 61 :: bl (relTx t.2) := by
  unfold lineT fmtR
  rw [if_pos h.rel, bl_app, bl_app, List.append_assoc]
  rfl
theorem lineT_ne {t : Td} (h : TOk t) : ∀ x ∈ bl (lineT t), x ≠ 10 := by
  intro x hx
  rw [bl_lineT h] at hx
  rcases List.mem_append.1 hx with hx | hx
  · exact let_no (name_let h.nm x hx) (by decide)
  · rcases List.mem_cons.1 hx with e | hx
    · rw [e]; decide
    · exact (relTx_ne x hx).1
theorem spl_line {t : Td} (h : TOk t) : splB 61 (lineT t) = [t.1, fmtR t.2] := by
  unfold splB
  rw [bl_lineT h, spl_two (fun y hy => let_no (name_let h.nm y hy) (by decide)), spl_none (fun y hy => (relTx_ne y hy).2)]
  unfold fmtR
  rw [if_pos h.rel]
  rfl
theorem spl_db {d : Dbd} (h : ∀ t ∈ d, TOk t) : (splB 10 (fdG ⟨#[]⟩ d)).dropLast = d.map lineT := by
  unfold splB
  rw [fdG_eq, show bl ⟨#[]⟩ = [] from rfl, List.nil_append, spl_lines (by
    intro l hl
    obtain ⟨t, ht, rfl⟩ := List.mem_map.1 hl
    exact lineT_ne (h t ht)), List.map_append, List.map_map]
  simp
  exact fun a b c _ => rfl
theorem pdG_text : ∀ {d : Dbd}, (∀ t ∈ d, TOk t) → ∀ acc, pdG acc (d.map lineT) = some (acc ++ d)
  | [], _, acc => by simp [pdG]
  | t :: d, h, acc => by
    have ht := h t (by simp)
    rw [List.map_cons, pdG, spl_line ht]
    simp only [List.getD_cons_zero, List.getD_cons_succ, List.length_cons, List.length_nil, if_true, pRel_text ht.rel]
    rw [pdG_text (fun u hu => h u (by simp [hu]))]
    simp
theorem pdS_text : ∀ {d : Dbd}, (∀ t ∈ d, TOk t) → ∀ acc, pdS acc (d.map lineT) = some (acc ++ d)
  | [], _, acc => by simp [pdS]
  | t :: d, h, acc => by
    have ht := h t (by simp)
    rw [List.map_cons, pdS, spl_line ht]
    simp only [lastB, List.getD_cons_zero, List.getD_cons_succ, List.length_cons, List.length_nil, pRel_text ht.rel]
    rw [pdS_text (fun u hu => h u (by simp [hu]))]
    simp
theorem pDb_some {s : ByteArray} {d : Dbd} (h : pDb s = some d) : dbB d = true ∧ fmtD d = s := by
  unfold pDb at h
  split at h
  · cases h
  · rename_i e he
    unfold finD at h
    split at h
    · rename_i hf
      injection h with h
      subst h
      refine ⟨?_, hf⟩
      cases hv : dbB e with
      | true => rfl
      | false =>
        have hs : s = ⟨#[]⟩ := by rw [← hf]; unfold fmtD; rw [hv]; rfl
        subst hs
        rw [show (splB 10 ⟨#[]⟩).dropLast = [] from rfl, pdG] at he
        injection he with he
        rw [← he] at hv
        exact absurd hv (by decide)
    · cases h
theorem pDbS_some {s : ByteArray} {d : Dbd} (h : pDbS s = some d) : dbB d = true ∧ fmtD d = s := by
  unfold pDbS at h
  split at h
  · cases h
  · split at h
    · rename_i hf
      injection h with h
      subst h
      exact hf
    · cases h
theorem pDb_text {d : Dbd} (h : dbB d = true) : pDb (fmtD d) = some d := by
  have ok := (dbB_iff.1 h).2.1
  have e : fmtD d = fdG ⟨#[]⟩ d := by unfold fmtD; rw [if_pos h]
  unfold pDb
  rw [e, spl_db ok, pdG_text ok]
  unfold finD
  simp only [List.nil_append]
  rw [if_pos e]
theorem pDbS_text {d : Dbd} (h : dbB d = true) : pDbS (fmtD d) = some d := by
  have ok := (dbB_iff.1 h).2.1
  have e : fmtD d = fdG ⟨#[]⟩ d := by unfold fmtD; rw [if_pos h]
  unfold pDbS
  rw [e, spl_db ok, pdS_text ok]
  simp only [List.nil_append]
  rw [if_pos ⟨h, e⟩]
theorem pDbS_eq (s : ByteArray) : pDbS s = pDb s := by
  cases h : pDb s with
  | some r =>
    obtain ⟨h1, rfl⟩ := pDb_some h
    exact pDbS_text h1
  | none =>
    cases h2 : pDbS s with
    | none => rfl
    | some r =>
      obtain ⟨h1, rfl⟩ := pDbS_some h2
      rw [pDb_text h1] at h
      cases h
end Go.Proofs.Ytfigcfajkilhiaa

/- Numbers as decimal texts: the reference's and the program's way of writing them. -/
namespace Go.Proofs.Ytfigcfajkilhiaa
open Go.RowKit

theorem conv1 (w : World) (b o cap : Nat) (n : Int) (h : w.cell? ⟨b, o, none⟩ = some (.int .u8 n)) : (convert 62 9 (.slice (some ⟨b, o, none⟩) 1 cap)).run Try.prog w = .ok (.string (bs [UInt8.ofNat n.toNat])) w :=
  run_convert_bytes_arg w _ _ Try.underlying62 Try.underlying5 b o 1 cap [n] rfl (fun i hi => by
    have : i = 0 := by omega
    subst this
    simpa using h) _ Try.underlying9
/-! the program's way: digits from the last to the first -/
def digs (n : Nat) (acc : List UInt8) : List UInt8 := dec n ++ acc
theorem dec_step {n : Nat} (h : ¬ n < 10) (acc : List UInt8) : dec n ++ acc = dec (n / 10) ++ (UInt8.ofNat (48 + n % 10) :: acc) := by rw [dec_big h]; simp
theorem u8_digit {r : Int} (h0 : 0 ≤ r) (h9 : r ≤ 9) : ((UInt8.ofNat (48 + r).toNat).toNat : Int) = 48 + r := by
  rw [UInt8.toNat_ofNat', Nat.mod_eq_of_lt (by omega)]
  omega
theorem fmt_neg {z : Int} {l : List UInt8} (h : z < 0) (e : l = dec z.natAbs) : (⟨#[45]⟩ : ByteArray) ++ ⟨l.toArray⟩ = decI z := by
  subst e
  unfold decI
  rw [if_pos h]
  exact bs_append [45] _
theorem fmt_pos {z : Int} {l : List UInt8} (h : 0 ≤ z) (e : l = dec z.natAbs) : (⟨l.toArray⟩ : ByteArray) = decI z := by
  subst e
  unfold decI
  rw [if_neg (by omega)]
  rfl
theorem fmt_last {m r : Int} (h : m.natAbs < 10) (hr : r = m.natAbs) (ds : List UInt8) : UInt8.ofNat (48 + r).toNat :: ds = dec m.natAbs ++ ds := by
  rw [dec_small h, show (48 + r).toNat = 48 + m.natAbs by omega]
  rfl
theorem fmt_more {m r q : Int} (h : ¬ m.natAbs < 10) (hr : r = m.natAbs % 10) (hq : q.natAbs = m.natAbs / 10) (ds : List UInt8) : dec q.natAbs ++ (UInt8.ofNat (48 + r).toNat :: ds) = dec m.natAbs ++ ds := by
  rw [dec_step h, hq, show (48 + r).toNat = 48 + m.natAbs % 10 by omega]
theorem tU : SlT Try.prog 62 5 1 1 (.int .u8 0) := ⟨Try.underlying62, by kernel_rfl, rfl, by omega⟩
set_option maxRecDepth 4000 in
set_option maxHeartbeats 1000000 in
theorem FormatInt_any {z : Int} {w : World} (h1 : -9223372036854775808 ≤ z) (h2 : z ≤ 9223372036854775807) :
    Calls Try.prog 133 #[.int .i64 z] w fun e w' => e = .returned (.string (decI z)) ∧ ∃ y, w' = ext w y := by
  go_enter Try.func133, Try.ntmps133
  go_wp2
  go_loopw [0, 3] (fun n v wr => ∃ (m : Int) (ds : List UInt8) (F : List Nat), n = .int .i64 m ∧ -9223372036854775808 ≤ m ∧ m ≤ 9223372036854775807 ∧ SV 5 1 sU wr v ds F ∧ (∀ b ∈ F, w.heap.size ≤ b) ∧ (∃ y, wr = ext w y) ∧ ds.length + (dec m.natAbs).length ≤ 20 ∧ dec m.natAbs ++ ds = dec z.natAbs) (fun n _ _ => (intOf n).natAbs)
  case atStart => exact ⟨z, [], [], rfl, h1, h2, SV.nil, by simp, refl_ext w, by have := dec_length 19 z.natAbs (by omega) (by omega); simp; omega, by simp⟩
  case round =>
    obtain ⟨m, ds, F, rfl, p1, p2, hS, hF, hx, hl, hj⟩ := hrel
    obtain ⟨A, cap, rfl, _, _, hV⟩ := hS.view sU_v
    have Hc := Lib.hid (hS.cap0)
    have Hj := Lib.hid hj
    have HF := Lib.hid hF
    have hds : ds.length ≤ 20 := by omega
    clear hj hF
    have hsz := size_of_ext hx
    by_cases c1 : m < 0
    · have e1 := neg_td (z := m) (by omega)
      have e2 := neg_tm (z := m) (by omega)
      have t1 : m.tdiv 10 ≤ 0 := by omega
      have t2 : -922337203685477580 ≤ m.tdiv 10 := by omega
      have t3 : m.tmod 10 ≤ 0 := by omega
      have t4 : -9 ≤ m.tmod 10 := by omega
      have t5 : (m.tdiv 10).natAbs = m.natAbs / 10 := by omega
      have t6 : (m.tmod 10).natAbs = m.natAbs % 10 := by omega
      have t7 : (m.tdiv 10).natAbs < m.natAbs := by omega
      clear e1 e2
      by_cases c4 : m.tmod 10 < 0
      · by_cases c3 : -10 < m
        · go_wp2_with (at_builtin; refine wpList_appL (E := sU) (V := vU) rfl _ _ _ rfl tU rfl (SV.fresh1 (d := UInt8.ofNat (48 + -m.tmod 10).toNat) _ ⟨by rw [u8_digit (by omega) (by omega)], rfl⟩) rfl (by exact Hc.out) (by exact hV.toExt (alloc_ext _ _)) vU_s vU_1 (by simp only [List.length_cons, List.length_nil]; omega) (by omega) ?_; intro v' w' F' hS' hC' hF'; obtain ⟨A', cap', rfl, _, _, hV'⟩ := hS'.view sU_v; have kc := convV (P := Try.prog) (c := cap') (n := ds.length + 1) Try.underlying62 Try.underlying5 Try.underlying9 (by simp) hV'; have ku : (ByteArray.mk ([UInt8.ofNat (48 + -m.tmod 10).toNat] ++ ds).toArray).size = ds.length + 1 := by simp [ByteArray.size])
          · go_ret
            exact ⟨by rw [← fmt_neg (by assumption) ((fmt_last (m := m) (r := -m.tmod 10) (by omega) (by omega) ds).trans Hj.out)]; rfl, hC'.isExt (trans_ext hx (alloc_ext _ _)) (fun x h => by rw [List.mem_singleton.1 h]; exact hsz)⟩
          · go_ret
            exact ⟨by rw [← fmt_pos (by assumption) ((fmt_last (m := m) (r := -m.tmod 10) (by omega) (by omega) ds).trans Hj.out)]; rfl, hC'.isExt (trans_ext hx (alloc_ext _ _)) (fun x h => by rw [List.mem_singleton.1 h]; exact hsz)⟩
        · go_wp2_with (at_builtin; refine wpList_appL (E := sU) (V := vU) rfl _ _ _ rfl tU rfl (SV.fresh1 (d := UInt8.ofNat (48 + -m.tmod 10).toNat) _ ⟨by rw [u8_digit (by omega) (by omega)], rfl⟩) rfl (by exact Hc.out) (by exact hV.toExt (alloc_ext _ _)) vU_s vU_1 (by simp only [List.length_cons, List.length_nil]; omega) (by omega) ?_; intro v' w' F' hS' hC' hF'; obtain ⟨A', cap', rfl, _, _, hV'⟩ := hS'.view sU_v; have kc := convV (P := Try.prog) (c := cap') (n := ds.length + 1) Try.underlying62 Try.underlying5 Try.underlying9 (by simp) hV'; have ku : (ByteArray.mk ([UInt8.ofNat (48 + -m.tmod 10).toNat] ++ ds).toArray).size = ds.length + 1 := by simp [ByteArray.size])
          have hF2 : ∀ b ∈ F', w.heap.size ≤ b := fun b hb => by
              rcases hF' b hb with h | h
              · rw [List.mem_singleton.1 h]; exact hsz
              · exact Nat.le_trans hsz (Nat.le_trans (by simp) h)
          have e := fmt_more (m := m) (r := -m.tmod 10) (q := m.tdiv 10) (by omega) (by omega) (by omega) ds
          have el := congrArg List.length e
          simp only [List.length_append, List.length_cons] at el
          exact ⟨⟨m.tdiv 10, UInt8.ofNat (48 + -m.tmod 10).toNat :: ds, F', rfl, by omega, by omega, by simpa using hS', hF2, hC'.isExt (trans_ext hx (alloc_ext _ _)) (fun x h => by rw [List.mem_singleton.1 h]; exact hsz), by simp only [List.length_cons]; omega, e.trans Hj.out⟩, by simpa [intOf] using t7⟩
      · have c5 : 0 ≤ m.tmod 10 := by omega
        by_cases c3 : -10 < m
        · exfalso; omega
        · go_wp2_with (at_builtin; refine wpList_appL (E := sU) (V := vU) rfl _ _ _ rfl tU rfl (SV.fresh1 (d := UInt8.ofNat (48 + m.tmod 10).toNat) _ ⟨by rw [u8_digit (by omega) (by omega)], rfl⟩) rfl (by exact Hc.out) (by exact hV.toExt (alloc_ext _ _)) vU_s vU_1 (by simp only [List.length_cons, List.length_nil]; omega) (by omega) ?_; intro v' w' F' hS' hC' hF'; obtain ⟨A', cap', rfl, _, _, hV'⟩ := hS'.view sU_v; have kc := convV (P := Try.prog) (c := cap') (n := ds.length + 1) Try.underlying62 Try.underlying5 Try.underlying9 (by simp) hV'; have ku : (ByteArray.mk ([UInt8.ofNat (48 + m.tmod 10).toNat] ++ ds).toArray).size = ds.length + 1 := by simp [ByteArray.size])
          have hF2 : ∀ b ∈ F', w.heap.size ≤ b := fun b hb => by
              rcases hF' b hb with h | h
              · rw [List.mem_singleton.1 h]; exact hsz
              · exact Nat.le_trans hsz (Nat.le_trans (by simp) h)
          have e := fmt_more (m := m) (r := m.tmod 10) (q := m.tdiv 10) (by omega) (by omega) (by omega) ds
          have el := congrArg List.length e
          simp only [List.length_append, List.length_cons] at el
          exact ⟨⟨m.tdiv 10, UInt8.ofNat (48 + m.tmod 10).toNat :: ds, F', rfl, by omega, by omega, by simpa using hS', hF2, hC'.isExt (trans_ext hx (alloc_ext _ _)) (fun x h => by rw [List.mem_singleton.1 h]; exact hsz), by simp only [List.length_cons]; omega, e.trans Hj.out⟩, by simpa [intOf] using t7⟩
    · have c2 : 0 ≤ m := by omega
      clear c1
      by_cases c3 : m < 10
      · go_wp2_with (at_builtin; refine wpList_appL (E := sU) (V := vU) rfl _ _ _ rfl tU rfl (SV.fresh1 (d := UInt8.ofNat (48 + m % 10).toNat) _ ⟨by rw [u8_digit (by omega) (by omega)], rfl⟩) rfl (by exact Hc.out) (by exact hV.toExt (alloc_ext _ _)) vU_s vU_1 (by simp only [List.length_cons, List.length_nil]; omega) (by omega) ?_; intro v' w' F' hS' hC' hF'; obtain ⟨A', cap', rfl, _, _, hV'⟩ := hS'.view sU_v; have kc := convV (P := Try.prog) (c := cap') (n := ds.length + 1) Try.underlying62 Try.underlying5 Try.underlying9 (by simp) hV'; have ku : (ByteArray.mk ([UInt8.ofNat (48 + m % 10).toNat] ++ ds).toArray).size = ds.length + 1 := by simp [ByteArray.size])
        · go_ret
          exact ⟨by rw [← fmt_neg (by assumption) ((fmt_last (m := m) (r := m % 10) (by omega) (by omega) ds).trans Hj.out)]; rfl, hC'.isExt (trans_ext hx (alloc_ext _ _)) (fun x h => by rw [List.mem_singleton.1 h]; exact hsz)⟩
        · go_ret
          exact ⟨by rw [← fmt_pos (by assumption) ((fmt_last (m := m) (r := m % 10) (by omega) (by omega) ds).trans Hj.out)]; rfl, hC'.isExt (trans_ext hx (alloc_ext _ _)) (fun x h => by rw [List.mem_singleton.1 h]; exact hsz)⟩
      · go_wp2_with (at_builtin; refine wpList_appL (E := sU) (V := vU) rfl _ _ _ rfl tU rfl (SV.fresh1 (d := UInt8.ofNat (48 + m % 10).toNat) _ ⟨by rw [u8_digit (by omega) (by omega)], rfl⟩) rfl (by exact Hc.out) (by exact hV.toExt (alloc_ext _ _)) vU_s vU_1 (by simp only [List.length_cons, List.length_nil]; omega) (by omega) ?_; intro v' w' F' hS' hC' hF'; obtain ⟨A', cap', rfl, _, _, hV'⟩ := hS'.view sU_v; have kc := convV (P := Try.prog) (c := cap') (n := ds.length + 1) Try.underlying62 Try.underlying5 Try.underlying9 (by simp) hV'; have ku : (ByteArray.mk ([UInt8.ofNat (48 + m % 10).toNat] ++ ds).toArray).size = ds.length + 1 := by simp [ByteArray.size])
        have hF2 : ∀ b ∈ F', w.heap.size ≤ b := fun b hb => by
            rcases hF' b hb with h | h
            · rw [List.mem_singleton.1 h]; exact hsz
            · exact Nat.le_trans hsz (Nat.le_trans (by simp) h)
        have e := fmt_more (m := m) (r := m % 10) (q := m / 10) (by omega) (by omega) (by omega) ds
        have el := congrArg List.length e
        simp only [List.length_append, List.length_cons] at el
        exact ⟨⟨m / 10, UInt8.ofNat (48 + m % 10).toNat :: ds, F', rfl, by omega, by omega, by simpa using hS', hF2, hC'.isExt (trans_ext hx (alloc_ext _ _)) (fun x h => by rw [List.mem_singleton.1 h]; exact hsz), by simp only [List.length_cons]; omega, e.trans Hj.out⟩, by simp [intOf]; omega⟩
end Go.Proofs.Ytfigcfajkilhiaa

/- Texts divided at a byte: the program's way and the reference's. -/
namespace Go.Proofs.Ytfigcfajkilhiaa
open Go.RowKit

theorem u8_eq {a b : UInt8} (h : a = b) : ((a.toNat : Int) == (b.toNat : Int)) = true := by rw [h]; simp
theorem u8_ne {a b : UInt8} (h : a ≠ b) : ((a.toNat : Int) == (b.toNat : Int)) = false := by
  rw [beq_eq_false_iff_ne]
  intro e
  exact h (UInt8.toNat_inj.1 (by omega))
theorem u8_bnet {a b : UInt8} (h : a = b) : ((a.toNat : Int) != (b.toNat : Int)) = false := by rw [bne, u8_eq h]; rfl
theorem u8_bnef {a b : UInt8} (h : a ≠ b) : ((a.toNat : Int) != (b.toNat : Int)) = true := by rw [bne, u8_ne h]; rfl
set_option maxHeartbeats 1000000 in
theorem split_any {s : ByteArray} {c : UInt8} {w : World} (hs : s.size ≤ 1000000000) :
    Calls Try.prog 99 #[.string s, .int .u8 c.toNat] w fun e w' => ∃ v F, e = .returned v ∧ (∃ y, w' = ext w y) ∧ SV 9 1 sS w' v (splB c s) F ∧ ∀ b ∈ F, w.heap.size ≤ b := by
  go_enter Try.func99, Try.ntmps99
  go_wp2
  go_loopw [5, 6, 7] (fun v f i wr => ∃ (k n : Nat) (ds : List ByteArray) (F : List Nat), i = .int .i64 k ∧ f = .int .i64 n ∧ n ≤ k ∧ (k ≤ s.size ∧ SplI c s n k ds ∨ k = s.size + 1 ∧ ds = splB c s) ∧ SV 9 1 sS wr v ds F ∧ (∀ b ∈ F, w.heap.size ≤ b) ∧ (∃ y, wr = ext w y) ∧ ds.length ≤ k) (fun _ _ i _ => s.size + 1 - (intOf i).toNat)
  case atStart => exact ⟨0, 0, [], [], rfl, rfl, by omega, .inl ⟨by omega, SplI.start c s⟩, SV.nil, by simp, refl_ext w, by simp⟩
  case round =>
    obtain ⟨k, n, ds, F, rfl, rfl, hn, hr, hS, hF, hy, hl⟩ := hrel
    have HF := Lib.hid hF
    clear hF
    by_cases hlt : k < s.size
    · have hr : SplI c s n k ds := by
        rcases hr with h | h
        · exact h.2
        · omega
      by_cases hc : s[k] = c
      · have hq := u8_eq hc
        have HR := Lib.hid (hr.cut hlt hc)
        clear hr hc
        go_wp2_with (at_builtin; refine wpList_app1 (E := sS) rfl _ _ _ rfl tS rfl rfl rfl (by simp) (fun _ => ⟨rfl, rfl⟩) rfl (by simp [Value.oneCell']) hS (by omega) (by omega) ?_; intro v' w' F' hS' hC' hF')
        exact ⟨⟨k + 1, k + 1, _, F', by go_num, by go_num, by omega, .inl ⟨by omega, HR.out⟩, hS', newer HF.out (size_of_ext hy) hF', hC'.isExt hy HF.out, by simp; omega⟩, by simp [intOf]; omega⟩
      · have hq := u8_ne hc
        have HR := Lib.hid (hr.step hlt hn hc)
        clear hr hc
        go_wp2
        exact ⟨⟨k + 1, n, _, F, by go_num, rfl, by omega, .inl ⟨by omega, HR.out⟩, hS, HF.out, hy, by omega⟩, by simp [intOf]; omega⟩
    · by_cases hk : k = s.size
      · subst hk
        have HR := Lib.hid (show ds ++ [s.extract n s.size] = splB c s by
          rcases hr with h | h
          · exact h.2.last hlt
          · omega)
        clear hr
        go_wp2_with (at_builtin; refine wpList_app1 (E := sS) rfl _ _ _ rfl tS rfl rfl rfl (by simp) (fun _ => ⟨rfl, rfl⟩) rfl (by simp [Value.oneCell']) hS (by omega) (by omega) ?_; intro v' w' F' hS' hC' hF')
        exact ⟨⟨s.size + 1, s.size + 1, _, F', by go_num, by go_num, by omega, .inr ⟨rfl, HR.out⟩, hS', newer HF.out (size_of_ext hy) hF', hC'.isExt hy HF.out, by simpa using hl⟩, by simp [intOf]⟩
      · have HR := Lib.hid (show ds = splB c s by
          rcases hr with h | h
          · omega
          · exact h.2)
        have hk2 : s.size < k := by omega
        clear hr
        go_wp2
        go_ret
        exact ⟨_, F, rfl, hy, by rw [← HR.out]; exact hS, HF.out⟩
set_option maxHeartbeats 1000000 in
theorem l5Cut_any {s : ByteArray} {c : UInt8} {w : World} (hs : s.size ≤ 1000000000) :
    Calls Try.prog 98 #[.string s, .int .u8 c.toNat] w fun e w' => ∃ v F, e = .returned v ∧ (∃ y, w' = ext w y) ∧ SV 9 1 sS w' v (splB c s) F ∧ ∀ b ∈ F, w.heap.size ≤ b := by
  go_enter Try.func98, Try.ntmps98
  go_wp2
  go_loopw [5, 6, 7] (fun v f i wr => ∃ (k n : Nat) (ds : List ByteArray) (F : List Nat), i = .int .i64 k ∧ f = .int .i64 n ∧ n ≤ k ∧ k ≤ s.size ∧ SplI c s n k ds ∧ SV 9 1 sS wr v ds F ∧ (∀ b ∈ F, w.heap.size ≤ b) ∧ (∃ y, wr = ext w y) ∧ ds.length ≤ k) (fun _ _ i _ => s.size + 1 - (intOf i).toNat)
  case atStart => exact ⟨0, 0, [], [w.heap.size], rfl, rfl, by omega, by omega, SplI.start c s, SV.empty w, by simp, alloc_ext _ _, by simp⟩
  case round =>
    obtain ⟨k, n, ds, F, rfl, rfl, hn, hk, hr, hS, hF, hy, hl⟩ := hrel
    have HF := Lib.hid hF
    clear hF
    by_cases hlt : k < s.size
    · by_cases hc : s[k] = c
      · have hq := u8_eq hc
        have HR := Lib.hid (hr.cut hlt hc)
        clear hr hc
        go_wp2_with (at_builtin; refine wpList_app1 (E := sS) rfl _ _ _ rfl tS rfl rfl rfl (by simp) (fun _ => ⟨rfl, rfl⟩) rfl (by simp [Value.oneCell']) hS (by omega) (by omega) ?_; intro v' w' F' hS' hC' hF')
        exact ⟨⟨k + 1, k + 1, _, F', by go_num, by go_num, by omega, by omega, HR.out, hS', newer HF.out (size_of_ext hy) hF', hC'.isExt hy HF.out, by simp; omega⟩, by simp [intOf]; omega⟩
      · have hq := u8_ne hc
        have HR := Lib.hid (hr.step hlt hn hc)
        clear hr hc
        go_wp2
        exact ⟨⟨k + 1, n, _, F, by go_num, rfl, by omega, by omega, HR.out, hS, HF.out, hy, by omega⟩, by simp [intOf]; omega⟩
    · have hk : k = s.size := by omega
      subst hk
      have HR := Lib.hid (hr.last hlt)
      clear hr
      go_wp2_with (at_builtin; refine wpList_app1 (E := sS) rfl _ _ _ rfl tS rfl rfl rfl (by simp) (fun _ => ⟨rfl, rfl⟩) rfl (by simp [Value.oneCell']) hS (by omega) (by omega) ?_; intro v' w' F' hS' hC' hF')
      go_ret
      exact ⟨_, F', rfl, hC'.isExt hy HF.out, by rw [← HR.out]; exact hS', newer HF.out (size_of_ext hy) hF'⟩
end Go.Proofs.Ytfigcfajkilhiaa

/- Texts divided at a byte: the pieces read, the calls with the byte as a number. -/
namespace Go.Proofs.Ytfigcfajkilhiaa
open Go.RowKit

theorem isEmpty_yes {s : ByteArray} (h : s.size = 0) : s.toList.isEmpty = true := by
  rw [ByteArray.toList_eq, List.isEmpty_iff]
  apply List.eq_nil_of_length_eq_zero
  rw [Array.length_toList]
  exact h
theorem size_zero {s : ByteArray} (h : s.size = 0) : bl s = [] := List.eq_nil_of_length_eq_zero (by rw [bl_length]; exact h)
theorem RV.atS2 {w : World} {A : Option Addr} {xs : List ByteArray} {p q : ByteArray} (h : RS w A xs) (h1 : 1 < xs.length) (hp : xs.getD 0 ⟨#[]⟩ = p) (hq : xs.getD 1 ⟨#[]⟩ = q) : ∃ b o, A = some ⟨b, o, none⟩ ∧ b < w.heap.size ∧ w.cell? ⟨b, o, none⟩ = some (.string p) ∧ w.cell? ⟨b, o + 1, none⟩ = some (.string q) := by
  obtain ⟨b, o, e, hb, hc⟩ := h.atS (k := 0) (by omega)
  obtain ⟨b', o', e', _, hc'⟩ := h.atS h1
  rw [e] at e'
  injection e' with e'
  injection e' with e1 e2
  subst e1 e2 hp hq
  refine ⟨b, o, e, hb, ?_, ?_⟩
  · rw [show xs.getD 0 ⟨#[]⟩ = xs[0] by simp [List.getD_eq_getElem?_getD, show 0 < xs.length by omega]]; exact hc
  · rw [show xs.getD 1 ⟨#[]⟩ = xs[1] by simp [List.getD_eq_getElem?_getD, h1]]; exact hc'
theorem RV.atS1 {w : World} {A : Option Addr} {xs : List ByteArray} {p : ByteArray} (h : RS w A xs) (h1 : 0 < xs.length) (hp : xs.getD 0 ⟨#[]⟩ = p) : ∃ b o, A = some ⟨b, o, none⟩ ∧ b < w.heap.size ∧ w.cell? ⟨b, o, none⟩ = some (.string p) := by
  obtain ⟨b, o, e, hb, hc⟩ := h.atS h1
  subst hp
  refine ⟨b, o, e, hb, ?_⟩
  rw [show xs.getD 0 ⟨#[]⟩ = xs[0] by simp [List.getD_eq_getElem?_getD, h1]]; exact hc
theorem splB_getD (c : UInt8) (s : ByteArray) (k : Nat) (hs : s.size ≤ 1000000000) : ((splB c s).getD k ⟨#[]⟩).size ≤ 1000000000 := by
  by_cases h : k < (splB c s).length
  · rw [show (splB c s).getD k ⟨#[]⟩ = (splB c s)[k] by simp [List.getD_eq_getElem?_getD, h]]
    exact Nat.le_trans (splB_piece (List.getElem_mem h)) hs
  · rw [show (splB c s).getD k ⟨#[]⟩ = ⟨#[]⟩ by simp [List.getD_eq_getElem?_getD, Nat.le_of_not_lt h]]
    decide
theorem splB_empty {c : UInt8} {s : ByteArray} (h : s.size = 0) : splB c s = [⟨#[]⟩] := by
  rw [splB, size_zero h]
  rfl
theorem split_v {s : ByteArray} {c : UInt8} {w : World} {n : Nat} (hs : s.size ≤ 1000000000) (hn : (splB c s).length = n) :
    Calls Try.prog 99 #[.string s, .int .u8 c.toNat] w fun e w' => ∃ A cap, e = .returned (.slice A n cap) ∧ (∃ y, w' = ext w y) ∧ RS w' A (splB c s) := by
  subst hn
  refine (split_any hs).mono ?_
  rintro e w' ⟨v, F, rfl, hx, hS, _⟩
  obtain ⟨A, cap, rfl, _, _, r⟩ := hS.view sS_v
  exact ⟨A, cap, rfl, hx, r⟩
theorem split_c {s : ByteArray} (m : Int) (c : UInt8) {w : World} {n : Nat} (hs : s.size ≤ 1000000000) (hn : (splB c s).length = n) (hm : (c.toNat : Int) = m) :
    Calls Try.prog 99 #[.string s, .int .u8 m] w fun e w' => ∃ A cap, e = .returned (.slice A n cap) ∧ (∃ y, w' = ext w y) ∧ RS w' A (splB c s) := by
  subst hm
  exact split_v hs hn
theorem split_m {s : ByteArray} (m : Int) (c : UInt8) {w : World} (hs : s.size ≤ 1000000000) (hm : (c.toNat : Int) = m) :
    Calls Try.prog 99 #[.string s, .int .u8 m] w fun e w' => ∃ v F, e = .returned v ∧ (∃ y, w' = ext w y) ∧ SV 9 1 sS w' v (splB c s) F ∧ ∀ b ∈ F, w.heap.size ≤ b := by
  subst hm
  exact split_any hs
theorem l5Cut_m {s : ByteArray} (m : Int) (c : UInt8) {w : World} (hs : s.size ≤ 1000000000) (hm : (c.toNat : Int) = m) :
    Calls Try.prog 98 #[.string s, .int .u8 m] w fun e w' => ∃ v F, e = .returned v ∧ (∃ y, w' = ext w y) ∧ SV 9 1 sS w' v (splB c s) F ∧ ∀ b ∈ F, w.heap.size ≤ b := by
  subst hm
  exact l5Cut_any hs
end Go.Proofs.Ytfigcfajkilhiaa

/- Numbers read from text and written: the program's way and the reference's. -/
namespace Go.Proofs.Ytfigcfajkilhiaa
open Go.RowKit
theorem sgI_neg {s : ByteArray} (h : 0 < s.size) (hc : s[0] = 45) : sgI (bl s) = (true, bl (s.extract 1 s.size)) := by
  have h' : 0 < (bl s).length := by rw [bl_length]; exact h
  unfold sgI
  rw [if_pos]
  · rw [ext_bs, bl_bs, List.take_of_length_le (by rw [bl_length]; omega), List.drop_one]
  · rw [List.head?_eq_getElem?, List.getElem?_eq_getElem h', bl_get s h, hc]
theorem sgI_pos {s : ByteArray} (h : 0 < s.size) (hc : s[0] ≠ 45) : sgI (bl s) = (false, bl s) := by
  have h' : 0 < (bl s).length := by rw [bl_length]; exact h
  unfold sgI
  rw [if_neg]
  rw [List.head?_eq_getElem?, List.getElem?_eq_getElem h', bl_get s h]
  simpa using hc
theorem numB_step {s : ByteArray} {k : Nat} {n : Int} (h : k < s.size) (hd : isD s[k] = true) : numG n ((bl s).drop k) = numG (10 * n + ((s[k].toNat : Int) - 48)) ((bl s).drop (k + 1)) := by
  rw [List.drop_eq_getElem_cons (by rw [bl_length]; exact h), numG, bl_get s h, if_pos hd]
theorem numB_bad {s : ByteArray} {k : Nat} {n : Int} (h : k < s.size) (hd : ¬ isD s[k] = true) : numG n ((bl s).drop k) = none := by
  rw [List.drop_eq_getElem_cons (by rw [bl_length]; exact h), numG, bl_get s h, if_neg hd]
theorem numB_end {s : ByteArray} {k : Nat} {n : Int} (h : ¬ k < s.size) : numG n ((bl s).drop k) = some n := by
  rw [List.drop_eq_nil_of_le (by rw [bl_length]; omega), numG]
theorem isDt {b : UInt8} (h : isD b = true) : 48 ≤ (b.toNat : Int) ∧ (b.toNat : Int) ≤ 57 := by simp [isD] at h; omega
theorem isDf {b : UInt8} (h : ¬ isD b = true) : (b.toNat : Int) < 48 ∨ 57 < (b.toNat : Int) := by simp [isD] at h; omega
theorem pw_step {n d : Int} {k : Nat} (h : n < 10 ^ k) (hd : d ≤ 9) : 10 * n + d < 10 ^ (k + 1) := by
  have : (10 : Int) ^ (k + 1) = 10 ^ k * 10 := Int.pow_succ 10 k
  omega
def PiRes (s : ByteArray) (w : World) (e : Ending) (w' : World) : Prop := e = .returned (.tuple #[.int .i64 ((pInt s).getD 0), .bool (pInt s).isSome]) ∧ ∃ y, w' = ext w y
theorem piNone {s : ByteArray} {w w' : World} {e : Ending} (h : pInt s = none) (he : e = .returned (.tuple #[.int .i64 0, .bool false])) (hx : ∃ y, w' = ext w y) : PiRes s w e w' := by
  unfold PiRes
  rw [h]
  exact ⟨he, hx⟩
theorem piSome {s : ByteArray} {z : Int} {w w' : World} {e : Ending} (h : pInt s = some z) (he : e = .returned (.tuple #[.int .i64 z, .bool true])) (hx : ∃ y, w' = ext w y) : PiRes s w e w' := by
  unfold PiRes
  rw [h]
  exact ⟨he, hx⟩
theorem pInt_yes {s : ByteArray} {neg : Bool} {ds : List UInt8} {m z : Int} (hs : sgI (bl s) = (neg, ds)) (hl : ds.length ≤ 9) (hm : numG 0 ds = some m) (hz : sg1 neg m = z) (he : decI z = s) : pInt s = some z := by
  rw [pInt_num (by rw [hs]; exact hm) (by rw [hs]; exact hl), hs]
  simp only [hz]
  rw [if_pos he]
theorem pInt_no {s : ByteArray} {neg : Bool} {ds : List UInt8} {m z : Int} (hs : sgI (bl s) = (neg, ds)) (hl : ds.length ≤ 9) (hm : numG 0 ds = some m) (hz : sg1 neg m = z) (he : decI z ≠ s) : pInt s = none := by
  rw [pInt_num (by rw [hs]; exact hm) (by rw [hs]; exact hl), hs]
  simp only [hz]
  rw [if_neg he]
set_option maxHeartbeats 1000000 in
theorem ParseInt_any {s : ByteArray} {w : World} (hs : s.size ≤ 1000000000) : Calls Try.prog 130 #[.string s] w (PiRes s w) := by
  by_cases h0 : s.size = 0
  · have he := isEmpty_yes h0
    have HR := Lib.hid (show pInt s = none from pInt_empty (by rw [size_zero h0]; rfl))
    go_enter Try.func130, Try.ntmps130
    go_wp2
    go_ret2
    exact piNone HR.out rfl (by refine Chg.isExt (F := []) ?_ (refl_ext _) (by simp); repeat (with_reducible (first | exact Chg.refl _ _ | exact Nat.le_refl _ | exact Chg.ofExt (by assumption) | refine Chg.trans0 ?_ (by assumption) | refine Chg.extS ?_ _ | refine Chg.alloc ?_ _ | refine Chg.drew ?_ | refine Chg.setCellE ?_ ?_ _ | refine le_addk ?_ _ | refine le_ext ?_ | refine le_alloc ?_ _ | refine le_setC ?_ _ _ | refine le_drew ?_ | assumption | (refine Nat.le_of_lt ?_; omega) | omega)))
  · have hpos : 0 < s.size := by omega
    have hne := isEmpty_no (s := s) (by omega)
    by_cases hc : s[0] = 45
    · have hq : ((s[0].toNat : Int) == 45) = true := by rw [hc]; rfl
      have hsg := sgI_neg hpos hc
      obtain ⟨d, hd⟩ : ∃ d, s.extract 1 s.size = d := ⟨_, rfl⟩
      have hds : d.size ≤ 1000000000 := by rw [← hd, ByteArray.size_extract]; omega
      rw [hd] at hsg
      clear hc
      by_cases hd0 : d.size = 0
      · have he := isEmpty_yes hd0
        have HR := Lib.hid (show pInt s = none from pInt_empty (by rw [hsg]; exact size_zero hd0))
        clear hsg hd0
        go_enter Try.func130, Try.ntmps130
        go_wp2
        go_ret2
        exact piNone HR.out rfl (by refine Chg.isExt (F := []) ?_ (refl_ext _) (by simp); repeat (with_reducible (first | exact Chg.refl _ _ | exact Nat.le_refl _ | exact Chg.ofExt (by assumption) | refine Chg.trans0 ?_ (by assumption) | refine Chg.extS ?_ _ | refine Chg.alloc ?_ _ | refine Chg.drew ?_ | refine Chg.setCellE ?_ ?_ _ | refine le_addk ?_ _ | refine le_ext ?_ | refine le_alloc ?_ _ | refine le_setC ?_ _ _ | refine le_drew ?_ | assumption | (refine Nat.le_of_lt ?_; omega) | omega)))
      · have he := isEmpty_no (s := d) (by omega)
        by_cases h9 : 9 < d.size
        · have HR := Lib.hid (show pInt s = none from pInt_long (by rw [hsg]; show 9 < (bl d).length; rw [bl_length]; exact h9))
          clear hsg
          go_enter Try.func130, Try.ntmps130
          go_wp2
          go_ret2
          exact piNone HR.out rfl (by refine Chg.isExt (F := []) ?_ (refl_ext _) (by simp); repeat (with_reducible (first | exact Chg.refl _ _ | exact Nat.le_refl _ | exact Chg.ofExt (by assumption) | refine Chg.trans0 ?_ (by assumption) | refine Chg.extS ?_ _ | refine Chg.alloc ?_ _ | refine Chg.drew ?_ | refine Chg.setCellE ?_ ?_ _ | refine le_addk ?_ _ | refine le_ext ?_ | refine le_alloc ?_ _ | refine le_setC ?_ _ _ | refine le_drew ?_ | assumption | (refine Nat.le_of_lt ?_; omega) | omega)))
        · have hb : d.size ≤ 9 := by omega
          have HSG := Lib.hid hsg
          have HL9 := Lib.hid (show (bl d).length ≤ 9 by rw [bl_length]; exact hb)
          have HBAD := Lib.hid (fun (h : numG 0 (bl d) = none) => pInt_bad (s := s) (by rw [hsg]; exact h))
          clear hsg
          go_enter Try.func130, Try.ntmps130
          go_wp2
          go_loop [6, 7] (fun n i => ∃ (k : Nat) (m : Int), n = .int .i64 m ∧ i = .int .i64 k ∧ k ≤ d.size ∧ 0 ≤ m ∧ m < 10 ^ k ∧ numG m ((bl d).drop k) = numG 0 (bl d)) (fun _ i => d.size - (intOf i).toNat)
          case atStart => exact ⟨0, 0, rfl, rfl, by omega, by omega, by omega, by simp⟩
          case round =>
            obtain ⟨k, m, rfl, rfl, hk, hm0, hm1, hj⟩ := hrel
            have Hj := Lib.hid hj
            clear hj
            have hp := pw9 (k := k) (by omega)
            have hm2 : m ≤ 1000000000 := by omega
            have Hm1 := Lib.hid hm1
            clear hm1 hp
            by_cases hlt : k < d.size
            · by_cases hd : isD d[k] = true
              · obtain ⟨q1, q2⟩ := isDt hd
                have e := Hj.out
                rw [numB_step hlt hd] at e
                have He := Lib.hid e
                clear e hd
                go_wp2
                exact ⟨⟨k + 1, 10 * m + ((d[k].toNat : Int) - 48), rfl, by go_num, by omega, by omega, pw_step Hm1.out (by omega), He.out⟩, by simp [intOf]; omega⟩
              · have e := Hj.out
                rw [numB_bad hlt hd] at e
                have HR := Lib.hid (HBAD.out e.symm)
                rcases isDf hd with q | q
                all_goals
                  clear e hd
                  go_wp2
                  go_ret2
                  exact piNone HR.out rfl (by refine Chg.isExt (F := []) ?_ (refl_ext _) (by simp); repeat (with_reducible (first | exact Chg.refl _ _ | exact Nat.le_refl _ | exact Chg.ofExt (by assumption) | refine Chg.trans0 ?_ (by assumption) | refine Chg.extS ?_ _ | refine Chg.alloc ?_ _ | refine Chg.drew ?_ | refine Chg.setCellE ?_ ?_ _ | refine le_addk ?_ _ | refine le_ext ?_ | refine le_alloc ?_ _ | refine le_setC ?_ _ _ | refine le_drew ?_ | assumption | (refine Nat.le_of_lt ?_; omega) | omega)))
            · have e := Hj.out
              rw [numB_end hlt] at e
              have He := Lib.hid e
              clear e
              by_cases hts : decI (-m) = s
              · have HR := Lib.hid (pInt_yes HSG.out HL9.out He.out.symm (show sg1 true m = -m from rfl) hts)
                have q1 := str_beqt hts
                have q2 := str_bnet hts
                clear hts
                go_wp2_with (go_at_call 133; refine (FormatInt_any (by omega) (by omega)).mono ?_; rintro e w2 ⟨rfl, hx2⟩)
                go_ret2
                exact piSome HR.out rfl (by refine Chg.isExt (F := []) ?_ (refl_ext _) (by simp); repeat (with_reducible (first | exact Chg.refl _ _ | exact Nat.le_refl _ | exact Chg.ofExt (by assumption) | refine Chg.trans0 ?_ (by assumption) | refine Chg.extS ?_ _ | refine Chg.alloc ?_ _ | refine Chg.drew ?_ | refine Chg.setCellE ?_ ?_ _ | refine le_addk ?_ _ | refine le_ext ?_ | refine le_alloc ?_ _ | refine le_setC ?_ _ _ | refine le_drew ?_ | assumption | (refine Nat.le_of_lt ?_; omega) | omega)))
              · have HR := Lib.hid (pInt_no HSG.out HL9.out He.out.symm (show sg1 true m = -m from rfl) hts)
                have q1 := str_beqf hts
                have q2 := str_bnef hts
                clear hts
                go_wp2_with (go_at_call 133; refine (FormatInt_any (by omega) (by omega)).mono ?_; rintro e w2 ⟨rfl, hx2⟩)
                go_ret2
                exact piNone HR.out rfl (by refine Chg.isExt (F := []) ?_ (refl_ext _) (by simp); repeat (with_reducible (first | exact Chg.refl _ _ | exact Nat.le_refl _ | exact Chg.ofExt (by assumption) | refine Chg.trans0 ?_ (by assumption) | refine Chg.extS ?_ _ | refine Chg.alloc ?_ _ | refine Chg.drew ?_ | refine Chg.setCellE ?_ ?_ _ | refine le_addk ?_ _ | refine le_ext ?_ | refine le_alloc ?_ _ | refine le_setC ?_ _ _ | refine le_drew ?_ | assumption | (refine Nat.le_of_lt ?_; omega) | omega)))
    · have hq : ((s[0].toNat : Int) == 45) = false := by
        rw [beq_eq_false_iff_ne]
        intro e
        exact hc (UInt8.toNat_inj.1 (by simpa using (by omega : s[0].toNat = 45)))
      have hsg := sgI_pos hpos hc
      clear hc
      by_cases hd0 : s.size = 0
      · exact absurd hd0 h0
      · have he := isEmpty_no (s := s) (by omega)
        by_cases h9 : 9 < s.size
        · have HR := Lib.hid (show pInt s = none from pInt_long (by rw [hsg]; show 9 < (bl s).length; rw [bl_length]; exact h9))
          clear hsg
          go_enter Try.func130, Try.ntmps130
          go_wp2
          go_ret2
          exact piNone HR.out rfl (by refine Chg.isExt (F := []) ?_ (refl_ext _) (by simp); repeat (with_reducible (first | exact Chg.refl _ _ | exact Nat.le_refl _ | exact Chg.ofExt (by assumption) | refine Chg.trans0 ?_ (by assumption) | refine Chg.extS ?_ _ | refine Chg.alloc ?_ _ | refine Chg.drew ?_ | refine Chg.setCellE ?_ ?_ _ | refine le_addk ?_ _ | refine le_ext ?_ | refine le_alloc ?_ _ | refine le_setC ?_ _ _ | refine le_drew ?_ | assumption | (refine Nat.le_of_lt ?_; omega) | omega)))
        · have hb : s.size ≤ 9 := by omega
          have HSG := Lib.hid hsg
          have HL9 := Lib.hid (show (bl s).length ≤ 9 by rw [bl_length]; exact hb)
          have HBAD := Lib.hid (fun (h : numG 0 (bl s) = none) => pInt_bad (s := s) (by rw [hsg]; exact h))
          clear hsg
          go_enter Try.func130, Try.ntmps130
          go_wp2
          go_loop [6, 7] (fun n i => ∃ (k : Nat) (m : Int), n = .int .i64 m ∧ i = .int .i64 k ∧ k ≤ s.size ∧ 0 ≤ m ∧ m < 10 ^ k ∧ numG m ((bl s).drop k) = numG 0 (bl s)) (fun _ i => s.size - (intOf i).toNat)
          case atStart => exact ⟨0, 0, rfl, rfl, by omega, by omega, by omega, by simp⟩
          case round =>
            obtain ⟨k, m, rfl, rfl, hk, hm0, hm1, hj⟩ := hrel
            have Hj := Lib.hid hj
            clear hj
            have hp := pw9 (k := k) (by omega)
            have hm2 : m ≤ 1000000000 := by omega
            have Hm1 := Lib.hid hm1
            clear hm1 hp
            by_cases hlt : k < s.size
            · by_cases hd : isD s[k] = true
              · obtain ⟨q1, q2⟩ := isDt hd
                have e := Hj.out
                rw [numB_step hlt hd] at e
                have He := Lib.hid e
                clear e hd
                go_wp2
                exact ⟨⟨k + 1, 10 * m + ((s[k].toNat : Int) - 48), rfl, by go_num, by omega, by omega, pw_step Hm1.out (by omega), He.out⟩, by simp [intOf]; omega⟩
              · have e := Hj.out
                rw [numB_bad hlt hd] at e
                have HR := Lib.hid (HBAD.out e.symm)
                rcases isDf hd with q | q
                all_goals
                  clear e hd
                  go_wp2
                  go_ret2
                  exact piNone HR.out rfl (by refine Chg.isExt (F := []) ?_ (refl_ext _) (by simp); repeat (with_reducible (first | exact Chg.refl _ _ | exact Nat.le_refl _ | exact Chg.ofExt (by assumption) | refine Chg.trans0 ?_ (by assumption) | refine Chg.extS ?_ _ | refine Chg.alloc ?_ _ | refine Chg.drew ?_ | refine Chg.setCellE ?_ ?_ _ | refine le_addk ?_ _ | refine le_ext ?_ | refine le_alloc ?_ _ | refine le_setC ?_ _ _ | refine le_drew ?_ | assumption | (refine Nat.le_of_lt ?_; omega) | omega)))
            · have e := Hj.out
              rw [numB_end hlt] at e
              have He := Lib.hid e
              clear e
              by_cases hts : decI (m) = s
              · have HR := Lib.hid (pInt_yes HSG.out HL9.out He.out.symm (show sg1 false m = m from rfl) hts)
                have q1 := str_beqt hts
                have q2 := str_bnet hts
                clear hts
                go_wp2_with (go_at_call 133; refine (FormatInt_any (by omega) (by omega)).mono ?_; rintro e w2 ⟨rfl, hx2⟩)
                go_ret2
                exact piSome HR.out rfl (by refine Chg.isExt (F := []) ?_ (refl_ext _) (by simp); repeat (with_reducible (first | exact Chg.refl _ _ | exact Nat.le_refl _ | exact Chg.ofExt (by assumption) | refine Chg.trans0 ?_ (by assumption) | refine Chg.extS ?_ _ | refine Chg.alloc ?_ _ | refine Chg.drew ?_ | refine Chg.setCellE ?_ ?_ _ | refine le_addk ?_ _ | refine le_ext ?_ | refine le_alloc ?_ _ | refine le_setC ?_ _ _ | refine le_drew ?_ | assumption | (refine Nat.le_of_lt ?_; omega) | omega)))
              · have HR := Lib.hid (pInt_no HSG.out HL9.out He.out.symm (show sg1 false m = m from rfl) hts)
                have q1 := str_beqf hts
                have q2 := str_bnef hts
                clear hts
                go_wp2_with (go_at_call 133; refine (FormatInt_any (by omega) (by omega)).mono ?_; rintro e w2 ⟨rfl, hx2⟩)
                go_ret2
                exact piNone HR.out rfl (by refine Chg.isExt (F := []) ?_ (refl_ext _) (by simp); repeat (with_reducible (first | exact Chg.refl _ _ | exact Nat.le_refl _ | exact Chg.ofExt (by assumption) | refine Chg.trans0 ?_ (by assumption) | refine Chg.extS ?_ _ | refine Chg.alloc ?_ _ | refine Chg.drew ?_ | refine Chg.setCellE ?_ ?_ _ | refine le_addk ?_ _ | refine le_ext ?_ | refine le_alloc ?_ _ | refine le_setC ?_ _ _ | refine le_drew ?_ | assumption | (refine Nat.le_of_lt ?_; omega) | omega)))
end Go.Proofs.Ytfigcfajkilhiaa

/- Relations and databases written as text: the program's way and the reference's. -/
namespace Go.Proofs.Ytfigcfajkilhiaa
open Go.RowKit
theorem conv1f (w : World) (b o cap : Nat) (n : Int) (h : w.cell? ⟨b, o, none⟩ = some (.int .u8 n)) : (convert 62 9 (.slice (some ⟨b, o, none⟩) 1 cap)).run Try.prog w = .ok (.string (bs [UInt8.ofNat n.toNat])) w :=
  run_convert_bytes_arg w _ _ Try.underlying62 Try.underlying5 b o 1 cap [n] rfl (fun i hi => by
    have : i = 0 := by omega
    subst this
    simpa using h) _ Try.underlying9
theorem sfi_step {m z r q : Int} {ds : List UInt8} (_hm : m ≠ 0) (h : dec m.natAbs ++ ds = dec z.natAbs) (hr : r = m.natAbs % 10) (hq : q.natAbs = m.natAbs / 10) : (q = 0 ∧ UInt8.ofNat (48 + r).toNat :: ds = dec z.natAbs) ∨ (q ≠ 0 ∧ dec q.natAbs ++ (UInt8.ofNat (48 + r).toNat :: ds) = dec z.natAbs) := by
  by_cases h0 : m.natAbs < 10
  · exact .inl ⟨by omega, by rw [fmt_last h0 (by omega), h]⟩
  · exact .inr ⟨by omega, by rw [fmt_more h0 hr hq, h]⟩
set_option maxHeartbeats 1000000 in
theorem specFormatInt_any {z : Int} {w : World} (h1 : -9223372036854775808 ≤ z) (h2 : z ≤ 9223372036854775807) :
    Calls Try.prog 169 #[.int .i64 z] w fun e w' => e = .returned (.string (decI z)) ∧ ∃ y, w' = ext w y := by
  by_cases h0 : z = 0
  · subst h0
    go_enter Try.func169, Try.ntmps169
    go_wp2
    go_ret
    exact ⟨by rw [← decI_one (by omega) (by omega)]; rfl, (by refine Chg.isExt (F := []) ?_ (refl_ext _) (by simp); repeat (with_reducible (first | exact Chg.refl _ _ | exact Nat.le_refl _ | exact Chg.ofExt (by assumption) | refine Chg.trans0 ?_ (by assumption) | refine Chg.extS ?_ _ | refine Chg.alloc ?_ _ | refine Chg.drew ?_ | refine Chg.setCellE ?_ ?_ _ | refine le_addk ?_ _ | refine le_ext ?_ | refine le_alloc ?_ _ | refine le_setC ?_ _ _ | refine le_drew ?_ | assumption | (refine Nat.le_of_lt ?_; omega) | omega)))⟩
  · have hzz : (z == 0) = false := by simpa using h0
    have kc := conv1f
    go_enter Try.func169, Try.ntmps169
    go_wp2
    go_loopw [0, 3] (fun n v wr => ∃ (m : Int) (ds : List UInt8), n = .int .i64 m ∧ v = .string (bs ds) ∧ -9223372036854775808 ≤ m ∧ m ≤ 9223372036854775807 ∧ (m < 0 → z < 0) ∧ (0 < m → 0 < z) ∧ (∃ y, wr = ext w y) ∧ ds.length ≤ 19 ∧ Hid ((m = 0 ∧ ds = dec z.natAbs) ∨ (m ≠ 0 ∧ dec m.natAbs ++ ds = dec z.natAbs))) (fun n _ _ => (intOf n).natAbs)
    case atStart => exact ⟨z, [], rfl, rfl, h1, h2, id, id, refl_ext w, by simp, Lib.hid (.inr ⟨h0, by simp⟩)⟩
    case round =>
      obtain ⟨m, ds, rfl, rfl, p1, p2, hn, hp, hy, hl, HH⟩ := hrel
      have hbs : (bs ds).size = ds.length := bs_size ds
      by_cases hm : m = 0
      · have HE := Lib.hid (show ds = dec z.natAbs by
          rcases HH.out with h | h
          · exact h.2
          · exact absurd hm h.1)
        clear HH
        subst hm
        by_cases hz : z < 0
        · have HR := Lib.hid (show (⟨#[45]⟩ : ByteArray) ++ bs ds = decI z from fmt_neg hz HE.out)
          go_wp2
          go_ret
          exact ⟨by rw [← HR.out]; rfl, hy⟩
        · have HR := Lib.hid (show bs ds = decI z from fmt_pos (by omega) HE.out)
          go_wp2
          go_ret
          exact ⟨by rw [← HR.out]; rfl, hy⟩
      · have hmm : (m != 0) = true := by simpa using hm
        have HE := Lib.hid (show dec m.natAbs ++ ds = dec z.natAbs by
          rcases HH.out with h | h
          · exact absurd h.1 hm
          · exact h.2)
        have hdl : ds.length + (dec m.natAbs).length ≤ 19 := by
          have h := congrArg List.length HE.out
          have h2 := dec_length 19 z.natAbs (by omega) (by omega)
          simp only [List.length_append] at h
          omega
        have hdp := List.length_pos_iff.2 (dec_ne m.natAbs)
        clear HH
        by_cases hneg : m < 0
        · have e1 := neg_td (z := m) (by omega)
          have e2 := neg_tm (z := m) (by omega)
          have t1 : m.tdiv 10 ≤ 0 := by omega
          have t2 : -922337203685477580 ≤ m.tdiv 10 := by omega
          have t3 : m.tmod 10 ≤ 0 := by omega
          have t4 : -9 ≤ m.tmod 10 := by omega
          have t5 : (m.tdiv 10).natAbs = m.natAbs / 10 := by omega
          have t6 : (m.tmod 10).natAbs = m.natAbs % 10 := by omega
          have t7 : (m.tdiv 10).natAbs < m.natAbs := by omega
          have HS := Lib.hid (sfi_step (r := -m.tmod 10) (q := m.tdiv 10) hm HE.out (by omega) t5)
          have HZ := Lib.hid (hn hneg)
          clear e1 e2 hn hp
          by_cases c4 : m.tmod 10 < 0
          · have u3 : (bs [UInt8.ofNat (48 + -m.tmod 10).toNat]).size = 1 := bs_size _
            go_wp2
            exact ⟨⟨m.tdiv 10, UInt8.ofNat (48 + -m.tmod 10).toNat :: ds, rfl, by rw [bs_append]; rfl, by omega, by omega, fun _ => HZ.out, fun h => by omega, (by refine Chg.isExt (F := []) ?_ (refl_ext _) (by simp); repeat (with_reducible (first | exact Chg.refl _ _ | exact Nat.le_refl _ | exact Chg.ofExt (by assumption) | refine Chg.trans0 ?_ (by assumption) | refine Chg.extS ?_ _ | refine Chg.alloc ?_ _ | refine Chg.drew ?_ | refine Chg.setCellE ?_ ?_ _ | refine le_addk ?_ _ | refine le_ext ?_ | refine le_alloc ?_ _ | refine le_setC ?_ _ _ | refine le_drew ?_ | assumption | (refine Nat.le_of_lt ?_; omega) | omega))), by simp only [List.length_cons]; omega, HS⟩, by simpa [intOf] using t7⟩
          · have HS := Lib.hid (sfi_step (r := m.tmod 10) (q := m.tdiv 10) hm HE.out (by omega) t5)
            have u3 : (bs [UInt8.ofNat (48 + m.tmod 10).toNat]).size = 1 := bs_size _
            go_wp2
            exact ⟨⟨m.tdiv 10, UInt8.ofNat (48 + m.tmod 10).toNat :: ds, rfl, by rw [bs_append]; rfl, by omega, by omega, fun _ => HZ.out, fun h => by omega, (by refine Chg.isExt (F := []) ?_ (refl_ext _) (by simp); repeat (with_reducible (first | exact Chg.refl _ _ | exact Nat.le_refl _ | exact Chg.ofExt (by assumption) | refine Chg.trans0 ?_ (by assumption) | refine Chg.extS ?_ _ | refine Chg.alloc ?_ _ | refine Chg.drew ?_ | refine Chg.setCellE ?_ ?_ _ | refine le_addk ?_ _ | refine le_ext ?_ | refine le_alloc ?_ _ | refine le_setC ?_ _ _ | refine le_drew ?_ | assumption | (refine Nat.le_of_lt ?_; omega) | omega))), by simp only [List.length_cons]; omega, HS⟩, by simpa [intOf] using t7⟩
        · have e1 := Int.tdiv_eq_ediv_of_nonneg (a := m) (b := 10) (by omega)
          have e2 := Int.tmod_eq_emod_of_nonneg (a := m) (b := 10) (by omega)
          have t1 : 0 ≤ m.tdiv 10 := by omega
          have t2 : m.tdiv 10 ≤ 922337203685477580 := by omega
          have t3 : 0 ≤ m.tmod 10 := by omega
          have t4 : m.tmod 10 ≤ 9 := by omega
          have t5 : (m.tdiv 10).natAbs = m.natAbs / 10 := by omega
          have t6 : (m.tmod 10).natAbs = m.natAbs % 10 := by omega
          have t7 : (m.tdiv 10).natAbs < m.natAbs := by omega
          have HS := Lib.hid (sfi_step (r := m % 10) (q := m.tdiv 10) hm HE.out (by omega) t5)
          have HZ := Lib.hid (hp (by omega))
          have u3 : (bs [UInt8.ofNat (48 + m % 10).toNat]).size = 1 := bs_size _
          clear e1 e2 hn hp
          go_wp2
          exact ⟨⟨m.tdiv 10, UInt8.ofNat (48 + m % 10).toNat :: ds, rfl, by rw [bs_append]; rfl, by omega, by omega, fun h => by omega, fun _ => HZ.out, (by refine Chg.isExt (F := []) ?_ (refl_ext _) (by simp); repeat (with_reducible (first | exact Chg.refl _ _ | exact Nat.le_refl _ | exact Chg.ofExt (by assumption) | refine Chg.trans0 ?_ (by assumption) | refine Chg.extS ?_ _ | refine Chg.alloc ?_ _ | refine Chg.drew ?_ | refine Chg.setCellE ?_ ?_ _ | refine le_addk ?_ _ | refine le_ext ?_ | refine le_alloc ?_ _ | refine le_setC ?_ _ _ | refine le_drew ?_ | assumption | (refine Nat.le_of_lt ?_; omega) | omega))), by simp only [List.length_cons]; omega, HS⟩, by simpa [intOf] using t7⟩
set_option maxHeartbeats 1000000 in
theorem formatList_any {A : Option Addr} {c : Nat} {xs : List Int} {sep : ByteArray} {w : World} (hx : xs.length ≤ 1000000) (hv : ∀ v ∈ xs, I64 v) (hs : sep.size ≤ 1000000000) (h1 : RI w A xs) :
    Calls Try.prog 132 #[.slice A xs.length c, .string sep] w fun e w' => e = .returned (.string (joinF sep 0 ⟨#[]⟩ (xs.map decI))) ∧ ∃ y, w' = ext w y := by
  have Hx := Lib.hid hv
  clear hv
  go_enter Try.func132, Try.ntmps132
  go_wp2
  go_loopw [5, 10] (fun v i wr => ∃ (k : Nat) (F : List Nat), i = .int .i64 k ∧ k ≤ xs.length ∧ SV 9 1 sS wr v ((xs.take k).map decI) F ∧ (∀ b ∈ F, w.heap.size ≤ b) ∧ ∃ y, wr = ext w y) (fun _ i _ => xs.length - (intOf i).toNat)
  case atStart => exact ⟨0, [], rfl, by omega, SV.nil, by simp, refl_ext _⟩
  case round =>
    obtain ⟨k, F, rfl, hk, hS, hF, hy⟩ := hrel
    have HF := Lib.hid hF
    clear hF
    by_cases hlt : k < xs.length
    · obtain ⟨b, o, rfl, hb, hc⟩ := (h1.toExt hy).atI hlt
      obtain ⟨x1, x2⟩ := Hx.out xs[k] (List.getElem_mem hlt)
      have HS := Lib.hid (show ((xs.take k).map decI) ++ [decI xs[k]] = (xs.take (k + 1)).map decI by rw [List.take_succ_eq_append_getElem hlt, List.map_append]; rfl)
      have hlk : ((xs.take k).map decI).length + 1 ≤ 2000000000 := by simp; omega
      obtain ⟨n, hn⟩ : ∃ n, xs[k] = n := ⟨_, rfl⟩
      rw [hn] at hc x1 x2 HS
      clear hn
      go_wp2_with (first
        | (go_at_call 133; refine (FormatInt_any x1 x2).mono ?_; rintro e w2 ⟨rfl, hx2⟩)
        | (at_builtin; refine wpList_app1 (E := sS) (d := decI n) rfl _ _ _ rfl tS rfl rfl rfl (by simp) (fun _ => ⟨rfl, rfl⟩) rfl (by simp [Value.oneCell']) (hS.toExt (by refine Chg.isExt (F := []) ?_ (refl_ext _) (by simp); repeat (with_reducible (first | exact Chg.refl _ _ | exact Nat.le_refl _ | exact Chg.ofExt (by assumption) | refine Chg.trans0 ?_ (by assumption) | refine Chg.extS ?_ _ | refine Chg.alloc ?_ _ | refine Chg.drew ?_ | refine Chg.setCellE ?_ ?_ _ | refine le_addk ?_ _ | refine le_ext ?_ | refine le_alloc ?_ _ | refine le_setC ?_ _ _ | refine le_drew ?_ | assumption | (refine Nat.le_of_lt ?_; omega) | omega)))) hlk (by omega) ?_; intro v' w' F' hS' hC' hF'))
      exact ⟨⟨k + 1, F', by go_num, by omega, by rw [← HS.out]; exact hS', newer HF.out (size_of_ext (by refine Chg.isExt (F := []) ?_ (refl_ext _) (by simp); repeat (with_reducible (first | exact Chg.refl _ _ | exact Nat.le_refl _ | exact Chg.ofExt (by assumption) | refine Chg.trans0 ?_ (by assumption) | refine Chg.extS ?_ _ | refine Chg.alloc ?_ _ | refine Chg.drew ?_ | refine Chg.setCellE ?_ ?_ _ | refine le_addk ?_ _ | refine le_ext ?_ | refine le_alloc ?_ _ | refine le_setC ?_ _ _ | refine le_drew ?_ | assumption | (refine Nat.le_of_lt ?_; omega) | omega)))) hF', hC'.isExt (by refine Chg.isExt (F := []) ?_ (refl_ext _) (by simp); repeat (with_reducible (first | exact Chg.refl _ _ | exact Nat.le_refl _ | exact Chg.ofExt (by assumption) | refine Chg.trans0 ?_ (by assumption) | refine Chg.extS ?_ _ | refine Chg.alloc ?_ _ | refine Chg.drew ?_ | refine Chg.setCellE ?_ ?_ _ | refine le_addk ?_ _ | refine le_ext ?_ | refine le_alloc ?_ _ | refine le_setC ?_ _ _ | refine le_drew ?_ | assumption | (refine Nat.le_of_lt ?_; omega) | omega))) HF.out⟩, by simp [intOf]; omega⟩
    · rw [List.take_of_length_le (by omega)] at hS
      obtain ⟨A2, c2, rfl, _, _, hV⟩ := hS.view sS_v
      have HJ := Lib.hid (show ∀ j (h : j < (xs.map decI).length), (xs.map decI)[j].size ≤ 1000000000 by
        intro j h
        have h' : j < xs.length := by simpa using h
        obtain ⟨x1, x2⟩ := Hx.out xs[j] (List.getElem_mem h')
        have := decI_size x1 x2
        simp
        omega)
      rw [List.length_map] at *
      go_wp2_with (go_at_call 134; refine (join_n (ps := xs.map decI) (by simp) (by omega) (hV.toExt (by refine Chg.isExt (F := []) ?_ (refl_ext _) (by simp); repeat (with_reducible (first | exact Chg.refl _ _ | exact Nat.le_refl _ | exact Chg.ofExt (by assumption) | refine Chg.trans0 ?_ (by assumption) | refine Chg.extS ?_ _ | refine Chg.alloc ?_ _ | refine Chg.drew ?_ | refine Chg.setCellE ?_ ?_ _ | refine le_addk ?_ _ | refine le_ext ?_ | refine le_alloc ?_ _ | refine le_setC ?_ _ _ | refine le_drew ?_ | assumption | (refine Nat.le_of_lt ?_; omega) | omega)))) hs HJ.out).mono ?_; rintro e w3 ⟨rfl, hx3⟩)
      go_ret
      exact ⟨rfl, (by refine Chg.isExt (F := []) ?_ (refl_ext _) (by simp); repeat (with_reducible (first | exact Chg.refl _ _ | exact Nat.le_refl _ | exact Chg.ofExt (by assumption) | refine Chg.trans0 ?_ (by assumption) | refine Chg.extS ?_ _ | refine Chg.alloc ?_ _ | refine Chg.drew ?_ | refine Chg.setCellE ?_ ?_ _ | refine le_addk ?_ _ | refine le_ext ?_ | refine le_alloc ?_ _ | refine le_setC ?_ _ _ | refine le_drew ?_ | assumption | (refine Nat.le_of_lt ?_; omega) | omega)))⟩
set_option maxRecDepth 100000 in
set_option maxHeartbeats 4000000 in
theorem FormatRelation_w {a : Int} {A : Option Addr} {c : Nat} {rows : List (List Int)} {w : World} (hx : rows.length ≤ 1000000000) (hxl : ∀ x ∈ rows, x.length ≤ 1000000000) (h1 : RII w A rows) :
    Calls Try.prog 54 #[.agg #[.int .i64 a, .slice A rows.length c]] w fun e w' => e = .returned (.string (fmtR (a, rows))) ∧ ∃ y, w' = ext w y := by
  have HXL := Lib.hid hxl
  obtain ⟨t, ht⟩ : ∃ t, rowsB a rows = t := ⟨_, rfl⟩
  have HT := Lib.hid ht
  clear hxl
  cases t with
  | false =>
    have HE := Lib.hid (show fmtR (a, rows) = ⟨#[]⟩ by unfold fmtR; rw [ht]; rfl)
    clear ht
    go_enter Try.func54, Try.ntmps54
    go_wp2_with (go_at_call 122; refine (IsValidRelation_w hx HXL.out (h1.toExt (by refine Chg.isExt (F := []) ?_ (refl_ext _) (by simp); repeat (with_reducible (first | exact Chg.refl _ _ | exact Nat.le_refl _ | exact Chg.ofExt (by assumption) | refine Chg.trans0 ?_ (by assumption) | refine Chg.extS ?_ _ | refine Chg.alloc ?_ _ | refine Chg.drew ?_ | refine Chg.setCellE ?_ ?_ _ | refine le_addk ?_ _ | refine le_ext ?_ | refine le_alloc ?_ _ | refine le_setC ?_ _ _ | refine le_drew ?_ | assumption | (refine Nat.le_of_lt ?_; omega) | omega))))).mono ?_; rintro e w1 ⟨rfl, hx1⟩; rw [HT.out])
    go_ret
    exact ⟨by rw [HE.out]; rfl, (by refine Chg.isExt (F := []) ?_ (refl_ext _) (by simp); repeat (with_reducible (first | exact Chg.refl _ _ | exact Nat.le_refl _ | exact Chg.ofExt (by assumption) | refine Chg.trans0 ?_ (by assumption) | refine Chg.extS ?_ _ | refine Chg.alloc ?_ _ | refine Chg.drew ?_ | refine Chg.setCellE ?_ ?_ _ | refine le_addk ?_ _ | refine le_ext ?_ | refine le_alloc ?_ _ | refine le_setC ?_ _ _ | refine le_drew ?_ | assumption | (refine Nat.le_of_lt ?_; omega) | omega)))⟩
  | true =>
    have HE := Lib.hid (show fmtR (a, rows) = decI a ++ ⟨#[58]⟩ ++ joinF ⟨#[32]⟩ 0 ⟨#[]⟩ (rows.map rowTx) by unfold fmtR; rw [if_pos ht]; rfl)
    have hsz := rowsB_sz (d := (a, rows)) ht
    have HS5 := Lib.hid hsz.rl
    have HV5 := Lib.hid hsz.rv
    have hn := hsz.n
    obtain ⟨a0, a1⟩ := hsz.a
    dsimp only at hn a0 a1
    clear ht hsz
    go_enter Try.func54, Try.ntmps54
    go_upto_region 2 with (go_at_call 122; refine (IsValidRelation_w hx HXL.out (h1.toExt (by refine Chg.isExt (F := []) ?_ (refl_ext _) (by simp); repeat (with_reducible (first | exact Chg.refl _ _ | exact Nat.le_refl _ | exact Chg.ofExt (by assumption) | refine Chg.trans0 ?_ (by assumption) | refine Chg.extS ?_ _ | refine Chg.alloc ?_ _ | refine Chg.drew ?_ | refine Chg.setCellE ?_ ?_ _ | refine le_addk ?_ _ | refine le_ext ?_ | refine le_alloc ?_ _ | refine le_setC ?_ _ _ | refine le_drew ?_ | assumption | (refine Nat.le_of_lt ?_; omega) | omega))))).mono ?_; rintro e w1 ⟨rfl, hx1⟩; rw [HT.out]; have P1 := (BoxAt.new w #[.int .i64 a, .slice A rows.length c] 39).toExt hx1; obtain ⟨l1, p1, p1', f1⟩ := bx2 P1)
    have hxw : ∃ y, w1 = ext w y := (by refine Chg.isExt (F := []) ?_ (refl_ext _) (by simp); repeat (with_reducible (first | exact Chg.refl _ _ | exact Nat.le_refl _ | exact Chg.ofExt (by assumption) | refine Chg.trans0 ?_ (by assumption) | refine Chg.extS ?_ _ | refine Chg.alloc ?_ _ | refine Chg.drew ?_ | refine Chg.setCellE ?_ ?_ _ | refine le_addk ?_ _ | refine le_ext ?_ | refine le_alloc ?_ _ | refine le_setC ?_ _ _ | refine le_drew ?_ | assumption | (refine Nat.le_of_lt ?_; omega) | omega)))
    go_wp2
    clear l1 p1 p1' f1
    go_loopw [3, 12] (fun v i wr => ∃ (k : Nat) (F : List Nat), i = .int .i64 k ∧ k ≤ rows.length ∧ SV 9 1 sS wr v ((rows.take k).map rowTx) F ∧ (∀ b ∈ F, w1.heap.size ≤ b) ∧ ∃ y, wr = ext w1 y) (fun _ i _ => rows.length - (intOf i).toNat)
    case atStart => exact ⟨0, [], rfl, by omega, SV.nil, by simp, refl_ext _⟩
    case round =>
      obtain ⟨k, F, rfl, hk, hS, hF, hy⟩ := hrel
      have HF := Lib.hid hF
      clear hF
      by_cases hlt : k < rows.length
      · obtain ⟨b, o, A', c', rfl, hb, hc, hv⟩ := (h1.toExt (trans_ext hxw hy)).atV hlt
        have hr5 := HS5.out _ (List.getElem_mem hlt)
        have HRV := Lib.hid (HV5.out _ (List.getElem_mem hlt))
        obtain ⟨r, hr⟩ : ∃ r, rows[k] = r := ⟨_, rfl⟩
        have HS := Lib.hid (show ((rows.take k).map rowTx) ++ [rowTx r] = (rows.take (k + 1)).map rowTx by rw [List.take_succ_eq_append_getElem hlt, List.map_append, ← hr]; rfl)
        rw [hr] at hc hv hr5 HRV
        have hlk : ((rows.take k).map rowTx).length + 1 ≤ 2000000000 := by simp; omega
        have hn5 := nums_sz hr5 HRV.out r.length
        rw [List.take_length] at hn5
        have HI := Lib.hid (show ∀ v ∈ r, I64 v from fun v hm => by have := HRV.out v hm; exact ⟨by omega, by omega⟩)
        obtain ⟨J, hJ⟩ : ∃ J, joinF ⟨#[44]⟩ 0 ⟨#[]⟩ (r.map decI) = J := ⟨_, rfl⟩
        rw [hJ] at hn5
        have HT2 := Lib.hid (show ⟨#[40]⟩ ++ J ++ ⟨#[41]⟩ = rowTx r by rw [← hJ]; rfl)
        have HJ := Lib.hid hJ
        have z5 : (ByteArray.mk #[40]).size = 1 := rfl
        have z6 : (ByteArray.mk #[41]).size = 1 := rfl
        have z2 := ba_size ⟨#[40]⟩ J
        have z3 := ba_size (⟨#[40]⟩ ++ J) ⟨#[41]⟩
        clear hr hJ
        go_wp2_with (first
          | (go_at_call 132; refine (formatList_any (by omega) HI.out (by decide) (hv.toExt (by refine Chg.isExt (F := []) ?_ (refl_ext _) (by simp); repeat (with_reducible (first | exact Chg.refl _ _ | exact Nat.le_refl _ | exact Chg.ofExt (by assumption) | refine Chg.trans0 ?_ (by assumption) | refine Chg.extS ?_ _ | refine Chg.alloc ?_ _ | refine Chg.drew ?_ | refine Chg.setCellE ?_ ?_ _ | refine le_addk ?_ _ | refine le_ext ?_ | refine le_alloc ?_ _ | refine le_setC ?_ _ _ | refine le_drew ?_ | assumption | (refine Nat.le_of_lt ?_; omega) | omega))))).mono ?_; rintro e w2 ⟨rfl, hx2⟩; rw [HJ.out])
          | (at_builtin; refine wpList_app1 (E := sS) (d := rowTx r) rfl _ _ _ rfl tS rfl rfl rfl (by simp) (fun _ => ⟨by rw [HT2.out], rfl⟩) rfl (by simp [Value.oneCell']) (hS.toExt (by refine Chg.isExt (F := []) ?_ (refl_ext _) (by simp); repeat (with_reducible (first | exact Chg.refl _ _ | exact Nat.le_refl _ | exact Chg.ofExt (by assumption) | refine Chg.trans0 ?_ (by assumption) | refine Chg.extS ?_ _ | refine Chg.alloc ?_ _ | refine Chg.drew ?_ | refine Chg.setCellE ?_ ?_ _ | refine le_addk ?_ _ | refine le_ext ?_ | refine le_alloc ?_ _ | refine le_setC ?_ _ _ | refine le_drew ?_ | assumption | (refine Nat.le_of_lt ?_; omega) | omega)))) hlk (by omega) ?_; intro v' w' F' hS' hC' hF'))
        exact ⟨⟨k + 1, F', by go_num, by omega, by rw [← HS.out]; exact hS', newer HF.out (size_of_ext (by refine Chg.isExt (F := []) ?_ (refl_ext _) (by simp); repeat (with_reducible (first | exact Chg.refl _ _ | exact Nat.le_refl _ | exact Chg.ofExt (by assumption) | refine Chg.trans0 ?_ (by assumption) | refine Chg.extS ?_ _ | refine Chg.alloc ?_ _ | refine Chg.drew ?_ | refine Chg.setCellE ?_ ?_ _ | refine le_addk ?_ _ | refine le_ext ?_ | refine le_alloc ?_ _ | refine le_setC ?_ _ _ | refine le_drew ?_ | assumption | (refine Nat.le_of_lt ?_; omega) | omega)))) hF', hC'.isExt (by refine Chg.isExt (F := []) ?_ (refl_ext _) (by simp); repeat (with_reducible (first | exact Chg.refl _ _ | exact Nat.le_refl _ | exact Chg.ofExt (by assumption) | refine Chg.trans0 ?_ (by assumption) | refine Chg.extS ?_ _ | refine Chg.alloc ?_ _ | refine Chg.drew ?_ | refine Chg.setCellE ?_ ?_ _ | refine le_addk ?_ _ | refine le_ext ?_ | refine le_alloc ?_ _ | refine le_setC ?_ _ _ | refine le_drew ?_ | assumption | (refine Nat.le_of_lt ?_; omega) | omega))) HF.out⟩, by simp [intOf]; omega⟩
      · rw [List.take_of_length_le (by omega)] at hS
        obtain ⟨A2, c2, rfl, _, _, hV⟩ := hS.view sS_v
        obtain ⟨l2, p2, p2', f2⟩ := bx2 (P1.toExt hy)
        have HJ := Lib.hid (show ∀ j (h : j < (rows.map rowTx).length), (rows.map rowTx)[j].size ≤ 1000000000 by
          intro j h
          have h' : j < rows.length := by simpa using h
          have := rowTx_sz (HS5.out _ (List.getElem_mem h')) (HV5.out _ (List.getElem_mem h'))
          simp
          omega)
        rw [List.length_map] at *
        obtain ⟨J, hJ⟩ : ∃ J, joinF ⟨#[32]⟩ 0 ⟨#[]⟩ (rows.map rowTx) = J := ⟨_, rfl⟩
        have HJJ := Lib.hid hJ
        have hJs : J.size ≤ 432000 := by
          rw [← hJ]
          have := joinF_sz (c := 32) 107 (rows.map rowTx) 0 ⟨#[]⟩ (fun p hp => by obtain ⟨x, hx, rfl⟩ := List.mem_map.1 hp; exact rowTx_sz (HS5.out x hx) (HV5.out x hx))
          rw [List.length_map, show (ByteArray.mk #[]).size = 0 from rfl] at this
          omega
        have z1 := decI_size a0 a1
        have z5 : (ByteArray.mk #[58]).size = 1 := rfl
        have z2 := ba_size (decI a) ⟨#[58]⟩
        have z3 := ba_size (decI a ++ ⟨#[58]⟩) J
        clear hJ
        go_wp2_with (first
          | (go_at_call 133; refine (FormatInt_any a0 a1).mono ?_; rintro e w2 ⟨rfl, hx2⟩)
          | (go_at_call 134; refine (join_n (ps := rows.map rowTx) (by simp) (by omega) (hV.toExt (by refine Chg.isExt (F := []) ?_ (refl_ext _) (by simp); repeat (with_reducible (first | exact Chg.refl _ _ | exact Nat.le_refl _ | exact Chg.ofExt (by assumption) | refine Chg.trans0 ?_ (by assumption) | refine Chg.extS ?_ _ | refine Chg.alloc ?_ _ | refine Chg.drew ?_ | refine Chg.setCellE ?_ ?_ _ | refine le_addk ?_ _ | refine le_ext ?_ | refine le_alloc ?_ _ | refine le_setC ?_ _ _ | refine le_drew ?_ | assumption | (refine Nat.le_of_lt ?_; omega) | omega)))) (by decide) HJ.out).mono ?_; rintro e w3 ⟨rfl, hx3⟩; rw [HJJ.out]))
        go_ret
        exact ⟨by rw [HE.out, HJJ.out]; rfl, (by refine Chg.isExt (F := []) ?_ (refl_ext _) (by simp); repeat (with_reducible (first | exact Chg.refl _ _ | exact Nat.le_refl _ | exact Chg.ofExt (by assumption) | refine Chg.trans0 ?_ (by assumption) | refine Chg.extS ?_ _ | refine Chg.alloc ?_ _ | refine Chg.drew ?_ | refine Chg.setCellE ?_ ?_ _ | refine le_addk ?_ _ | refine le_ext ?_ | refine le_alloc ?_ _ | refine le_setC ?_ _ _ | refine le_drew ?_ | assumption | (refine Nat.le_of_lt ?_; omega) | omega)))⟩
set_option maxHeartbeats 1000000 in
theorem l5RowText_any {A : Option Addr} {c : Nat} {r : List Int} {w : World} (hr : r.length ≤ 5) (hv : ∀ v ∈ r, 0 ≤ v ∧ v ≤ 99) (h1 : RI w A r) :
    Calls Try.prog 170 #[.slice A r.length c] w fun e w' => e = .returned (.string (rowTx r)) ∧ ∃ y, w' = ext w y := by
  have HX := Lib.hid hv
  have HE := Lib.hid (show joinF ⟨#[44]⟩ 0 ⟨#[40]⟩ (r.map decI) ++ ⟨#[41]⟩ = rowTx r by rw [joinF_ac]; rfl)
  clear hv
  go_enter Try.func170, Try.ntmps170
  go_wp2
  go_loopw [3, 4] (fun v i wr => ∃ (k : Nat) (acc : ByteArray), i = .int .i64 k ∧ v = .string acc ∧ k ≤ r.length ∧ acc.size ≤ 10 + 30 * k ∧ Hid (joinF ⟨#[44]⟩ k acc ((r.drop k).map decI) = joinF ⟨#[44]⟩ 0 ⟨#[40]⟩ (r.map decI)) ∧ ∃ y, wr = ext w y) (fun _ i _ => r.length - (intOf i).toNat)
  case atStart => exact ⟨0, _, rfl, rfl, by omega, by decide, Lib.hid (by simp), refl_ext w⟩
  case round =>
    obtain ⟨k, acc, rfl, rfl, hk, ha, Hj, hy⟩ := hrel
    by_cases hlt : k < r.length
    · obtain ⟨b, o, rfl, hb, hc⟩ := (h1.toExt hy).atI hlt
      obtain ⟨x1, x2⟩ := HX.out _ (List.getElem_mem hlt)
      have e := Hj.out
      rw [List.drop_eq_getElem_cons hlt, List.map_cons, joinF] at e
      obtain ⟨n, hn⟩ : ∃ n, r[k] = n := ⟨_, rfl⟩
      rw [hn] at hc x1 x2 e
      have y5 : (ByteArray.mk #[44]).size = 1 := rfl
      have y1 := decI_size (z := n) (by omega) (by omega)
      clear hn
      by_cases h0 : 0 < k
      · rw [if_pos h0] at e
        have y2 := ba_size acc ⟨#[44]⟩
        have y3 := ba_size (acc ++ ⟨#[44]⟩) (decI n)
        have He := Lib.hid e
        clear e
        go_wp2_with (go_at_call 169; refine (specFormatInt_any (by omega) (by omega)).mono ?_; rintro e w2 ⟨rfl, hx2⟩)
        exact ⟨⟨k + 1, acc ++ ⟨#[44]⟩ ++ decI n, by go_num, rfl, by omega, by omega, He, (by refine Chg.isExt (F := []) ?_ (refl_ext _) (by simp); repeat (with_reducible (first | exact Chg.refl _ _ | exact Nat.le_refl _ | exact Chg.ofExt (by assumption) | refine Chg.trans0 ?_ (by assumption) | refine Chg.extS ?_ _ | refine Chg.alloc ?_ _ | refine Chg.drew ?_ | refine Chg.setCellE ?_ ?_ _ | refine le_addk ?_ _ | refine le_ext ?_ | refine le_alloc ?_ _ | refine le_setC ?_ _ _ | refine le_drew ?_ | assumption | (refine Nat.le_of_lt ?_; omega) | omega)))⟩, by simp [intOf]; omega⟩
      · rw [if_neg h0] at e
        have y3 := ba_size acc (decI n)
        have He := Lib.hid e
        clear e
        go_wp2_with (go_at_call 169; refine (specFormatInt_any (by omega) (by omega)).mono ?_; rintro e w2 ⟨rfl, hx2⟩)
        exact ⟨⟨k + 1, acc ++ decI n, by go_num, rfl, by omega, by omega, He, (by refine Chg.isExt (F := []) ?_ (refl_ext _) (by simp); repeat (with_reducible (first | exact Chg.refl _ _ | exact Nat.le_refl _ | exact Chg.ofExt (by assumption) | refine Chg.trans0 ?_ (by assumption) | refine Chg.extS ?_ _ | refine Chg.alloc ?_ _ | refine Chg.drew ?_ | refine Chg.setCellE ?_ ?_ _ | refine le_addk ?_ _ | refine le_ext ?_ | refine le_alloc ?_ _ | refine le_setC ?_ _ _ | refine le_drew ?_ | assumption | (refine Nat.le_of_lt ?_; omega) | omega)))⟩, by simp [intOf]; omega⟩
    · have e := Hj.out
      rw [List.drop_eq_nil_of_le (by omega), List.map_nil, joinF] at e
      have He := Lib.hid (show acc ++ ⟨#[41]⟩ = rowTx r by rw [e, HE.out])
      have y5 : (ByteArray.mk #[41]).size = 1 := rfl
      clear e
      go_wp2
      go_ret
      exact ⟨by rw [← He.out]; rfl, (by refine Chg.isExt (F := []) ?_ (refl_ext _) (by simp); repeat (with_reducible (first | exact Chg.refl _ _ | exact Nat.le_refl _ | exact Chg.ofExt (by assumption) | refine Chg.trans0 ?_ (by assumption) | refine Chg.extS ?_ _ | refine Chg.alloc ?_ _ | refine Chg.drew ?_ | refine Chg.setCellE ?_ ?_ _ | refine le_addk ?_ _ | refine le_ext ?_ | refine le_alloc ?_ _ | refine le_setC ?_ _ _ | refine le_drew ?_ | assumption | (refine Nat.le_of_lt ?_; omega) | omega)))⟩
set_option maxRecDepth 100000 in
set_option maxHeartbeats 4000000 in
theorem specFormatRelation_w {a : Int} {A : Option Addr} {c : Nat} {rows : List (List Int)} {w : World} (hx : rows.length ≤ 1000000000) (hxl : ∀ x ∈ rows, x.length ≤ 1000000000) (h1 : RII w A rows) :
    Calls Try.prog 86 #[.agg #[.int .i64 a, .slice A rows.length c]] w fun e w' => e = .returned (.string (fmtR (a, rows))) ∧ ∃ y, w' = ext w y := by
  have HXL := Lib.hid hxl
  obtain ⟨t, ht⟩ : ∃ t, rowsB a rows = t := ⟨_, rfl⟩
  have HT := Lib.hid ht
  clear hxl
  cases t with
  | false =>
    have HE := Lib.hid (show fmtR (a, rows) = ⟨#[]⟩ by unfold fmtR; rw [ht]; rfl)
    clear ht
    go_enter Try.func86, Try.ntmps86
    go_wp2_with (go_at_call 57; refine (specIsValidRelation_w hx HXL.out (h1.toExt (by refine Chg.isExt (F := []) ?_ (refl_ext _) (by simp); repeat (with_reducible (first | exact Chg.refl _ _ | exact Nat.le_refl _ | exact Chg.ofExt (by assumption) | refine Chg.trans0 ?_ (by assumption) | refine Chg.extS ?_ _ | refine Chg.alloc ?_ _ | refine Chg.drew ?_ | refine Chg.setCellE ?_ ?_ _ | refine le_addk ?_ _ | refine le_ext ?_ | refine le_alloc ?_ _ | refine le_setC ?_ _ _ | refine le_drew ?_ | assumption | (refine Nat.le_of_lt ?_; omega) | omega))))).mono ?_; rintro e w1 ⟨rfl, hx1⟩; rw [HT.out])
    go_ret
    exact ⟨by rw [HE.out]; rfl, (by refine Chg.isExt (F := []) ?_ (refl_ext _) (by simp); repeat (with_reducible (first | exact Chg.refl _ _ | exact Nat.le_refl _ | exact Chg.ofExt (by assumption) | refine Chg.trans0 ?_ (by assumption) | refine Chg.extS ?_ _ | refine Chg.alloc ?_ _ | refine Chg.drew ?_ | refine Chg.setCellE ?_ ?_ _ | refine le_addk ?_ _ | refine le_ext ?_ | refine le_alloc ?_ _ | refine le_setC ?_ _ _ | refine le_drew ?_ | assumption | (refine Nat.le_of_lt ?_; omega) | omega)))⟩
  | true =>
    have HE := Lib.hid (show joinF ⟨#[32]⟩ 0 (decI a ++ ⟨#[58]⟩) (rows.map rowTx) = fmtR (a, rows) by unfold fmtR; rw [if_pos ht, joinF_ac]; rfl)
    have hsz := rowsB_sz (d := (a, rows)) ht
    have HS5 := Lib.hid hsz.rl
    have HV5 := Lib.hid hsz.rv
    have hn := hsz.n
    obtain ⟨a0, a1⟩ := hsz.a
    dsimp only at hn a0 a1
    have z1 := decI_size a0 a1
    have z5 : (ByteArray.mk #[58]).size = 1 := rfl
    have z2 := ba_size (decI a) ⟨#[58]⟩
    clear ht hsz
    go_enter Try.func86, Try.ntmps86
    go_upto_region 3 with (go_at_call 57; refine (specIsValidRelation_w hx HXL.out (h1.toExt (by refine Chg.isExt (F := []) ?_ (refl_ext _) (by simp); repeat (with_reducible (first | exact Chg.refl _ _ | exact Nat.le_refl _ | exact Chg.ofExt (by assumption) | refine Chg.trans0 ?_ (by assumption) | refine Chg.extS ?_ _ | refine Chg.alloc ?_ _ | refine Chg.drew ?_ | refine Chg.setCellE ?_ ?_ _ | refine le_addk ?_ _ | refine le_ext ?_ | refine le_alloc ?_ _ | refine le_setC ?_ _ _ | refine le_drew ?_ | assumption | (refine Nat.le_of_lt ?_; omega) | omega))))).mono ?_; rintro e w1 ⟨rfl, hx1⟩; rw [HT.out]; have P1 := (BoxAt.new w #[.int .i64 a, .slice A rows.length c] 39).toExt hx1; obtain ⟨l1, p1, p1', f1⟩ := bx2 P1)
    have hxw : ∃ y, w1 = ext w y := (by refine Chg.isExt (F := []) ?_ (refl_ext _) (by simp); repeat (with_reducible (first | exact Chg.refl _ _ | exact Nat.le_refl _ | exact Chg.ofExt (by assumption) | refine Chg.trans0 ?_ (by assumption) | refine Chg.extS ?_ _ | refine Chg.alloc ?_ _ | refine Chg.drew ?_ | refine Chg.setCellE ?_ ?_ _ | refine le_addk ?_ _ | refine le_ext ?_ | refine le_alloc ?_ _ | refine le_setC ?_ _ _ | refine le_drew ?_ | assumption | (refine Nat.le_of_lt ?_; omega) | omega)))
    go_wp2_with (go_at_call 169; refine (specFormatInt_any a0 a1).mono ?_; rintro e w2 ⟨rfl, hx2⟩)
    clear l1 p1 p1' f1
    go_loopw [3, 4] (fun v i wr => ∃ (k : Nat) (acc : ByteArray), i = .int .i64 k ∧ v = .string acc ∧ k ≤ rows.length ∧ acc.size ≤ 30 + 120 * k ∧ Hid (joinF ⟨#[32]⟩ k acc ((rows.drop k).map rowTx) = joinF ⟨#[32]⟩ 0 (decI a ++ ⟨#[58]⟩) (rows.map rowTx)) ∧ ∃ y, wr = ext w1 y) (fun _ i _ => rows.length - (intOf i).toNat)
    case atStart => exact ⟨0, _, rfl, rfl, by omega, by omega, Lib.hid (by simp), (by refine Chg.isExt (F := []) ?_ (refl_ext _) (by simp); repeat (with_reducible (first | exact Chg.refl _ _ | exact Nat.le_refl _ | exact Chg.ofExt (by assumption) | refine Chg.trans0 ?_ (by assumption) | refine Chg.extS ?_ _ | refine Chg.alloc ?_ _ | refine Chg.drew ?_ | refine Chg.setCellE ?_ ?_ _ | refine le_addk ?_ _ | refine le_ext ?_ | refine le_alloc ?_ _ | refine le_setC ?_ _ _ | refine le_drew ?_ | assumption | (refine Nat.le_of_lt ?_; omega) | omega)))⟩
    case round =>
      obtain ⟨k, acc, rfl, rfl, hk, ha, Hj, hy⟩ := hrel
      obtain ⟨l3, p3, p3', f3⟩ := bx2 (P1.toExt hy)
      by_cases hlt : k < rows.length
      · obtain ⟨b, o, A', c', rfl, hb, hc, hv⟩ := (h1.toExt (trans_ext hxw hy)).atV hlt
        have hr5 := HS5.out _ (List.getElem_mem hlt)
        have HRV := Lib.hid (HV5.out _ (List.getElem_mem hlt))
        have e := Hj.out
        rw [List.drop_eq_getElem_cons hlt, List.map_cons, joinF] at e
        obtain ⟨r, hr⟩ : ∃ r, rows[k] = r := ⟨_, rfl⟩
        rw [hr] at hc hv hr5 HRV e
        have y1 := rowTx_sz hr5 HRV.out
        have y5 : (ByteArray.mk #[32]).size = 1 := rfl
        clear hr
        by_cases h0 : 0 < k
        · rw [if_pos h0] at e
          have y2 := ba_size acc ⟨#[32]⟩
          have y3 := ba_size (acc ++ ⟨#[32]⟩) (rowTx r)
          have He := Lib.hid e
          clear e
          go_wp2_with (go_at_call 170; refine (l5RowText_any hr5 HRV.out (hv.toExt (by refine Chg.isExt (F := []) ?_ (refl_ext _) (by simp); repeat (with_reducible (first | exact Chg.refl _ _ | exact Nat.le_refl _ | exact Chg.ofExt (by assumption) | refine Chg.trans0 ?_ (by assumption) | refine Chg.extS ?_ _ | refine Chg.alloc ?_ _ | refine Chg.drew ?_ | refine Chg.setCellE ?_ ?_ _ | refine le_addk ?_ _ | refine le_ext ?_ | refine le_alloc ?_ _ | refine le_setC ?_ _ _ | refine le_drew ?_ | assumption | (refine Nat.le_of_lt ?_; omega) | omega))))).mono ?_; rintro e w3 ⟨rfl, hx3⟩)
          exact ⟨⟨k + 1, acc ++ ⟨#[32]⟩ ++ rowTx r, by go_num, rfl, by omega, by omega, He, (by refine Chg.isExt (F := []) ?_ (refl_ext _) (by simp); repeat (with_reducible (first | exact Chg.refl _ _ | exact Nat.le_refl _ | exact Chg.ofExt (by assumption) | refine Chg.trans0 ?_ (by assumption) | refine Chg.extS ?_ _ | refine Chg.alloc ?_ _ | refine Chg.drew ?_ | refine Chg.setCellE ?_ ?_ _ | refine le_addk ?_ _ | refine le_ext ?_ | refine le_alloc ?_ _ | refine le_setC ?_ _ _ | refine le_drew ?_ | assumption | (refine Nat.le_of_lt ?_; omega) | omega)))⟩, by simp [intOf]; omega⟩
        · rw [if_neg h0] at e
          have y3 := ba_size acc (rowTx r)
          have He := Lib.hid e
          clear e
          go_wp2_with (go_at_call 170; refine (l5RowText_any hr5 HRV.out (hv.toExt (by refine Chg.isExt (F := []) ?_ (refl_ext _) (by simp); repeat (with_reducible (first | exact Chg.refl _ _ | exact Nat.le_refl _ | exact Chg.ofExt (by assumption) | refine Chg.trans0 ?_ (by assumption) | refine Chg.extS ?_ _ | refine Chg.alloc ?_ _ | refine Chg.drew ?_ | refine Chg.setCellE ?_ ?_ _ | refine le_addk ?_ _ | refine le_ext ?_ | refine le_alloc ?_ _ | refine le_setC ?_ _ _ | refine le_drew ?_ | assumption | (refine Nat.le_of_lt ?_; omega) | omega))))).mono ?_; rintro e w3 ⟨rfl, hx3⟩)
          exact ⟨⟨k + 1, acc ++ rowTx r, by go_num, rfl, by omega, by omega, He, (by refine Chg.isExt (F := []) ?_ (refl_ext _) (by simp); repeat (with_reducible (first | exact Chg.refl _ _ | exact Nat.le_refl _ | exact Chg.ofExt (by assumption) | refine Chg.trans0 ?_ (by assumption) | refine Chg.extS ?_ _ | refine Chg.alloc ?_ _ | refine Chg.drew ?_ | refine Chg.setCellE ?_ ?_ _ | refine le_addk ?_ _ | refine le_ext ?_ | refine le_alloc ?_ _ | refine le_setC ?_ _ _ | refine le_drew ?_ | assumption | (refine Nat.le_of_lt ?_; omega) | omega)))⟩, by simp [intOf]; omega⟩
      · have e := Hj.out
        rw [List.drop_eq_nil_of_le (by omega), List.map_nil, joinF] at e
        have He := Lib.hid (show acc = fmtR (a, rows) by rw [e, HE.out])
        clear e
        go_wp2
        go_ret
        exact ⟨by rw [← He.out]; rfl, (by refine Chg.isExt (F := []) ?_ (refl_ext _) (by simp); repeat (with_reducible (first | exact Chg.refl _ _ | exact Nat.le_refl _ | exact Chg.ofExt (by assumption) | refine Chg.trans0 ?_ (by assumption) | refine Chg.extS ?_ _ | refine Chg.alloc ?_ _ | refine Chg.drew ?_ | refine Chg.setCellE ?_ ?_ _ | refine le_addk ?_ _ | refine le_ext ?_ | refine le_alloc ?_ _ | refine le_setC ?_ _ _ | refine le_drew ?_ | assumption | (refine Nat.le_of_lt ?_; omega) | omega)))⟩
end Go.Proofs.Ytfigcfajkilhiaa

/- Databases written as text: the program's way and the reference's. -/
namespace Go.Proofs.Ytfigcfajkilhiaa
open Go.RowKit
theorem quietEs {P : Program} {f : FuncId} {args : Array Value} {w y : World} {c s : ByteArray}
    (h : Calls P f args (ext w y) fun e w' => e = .returned (.string c) ∧ ∃ z, w' = ext (ext w y) z) (hc : c = s) :
    Calls P f args (ext w y) fun e w' => e = .returned (.string s) ∧ ∃ z, w' = ext w z := by
  subst hc
  exact quietE h
set_option maxRecDepth 100000 in
set_option maxHeartbeats 4000000 in
theorem FormatDatabase_any {A : Option Addr} {c : Nat} {d : Dbd} {w : World} (hd : WDb d) (h1 : RV 3 vTb w A d) :
    Calls Try.prog 18 #[.agg #[.slice A d.length c]] w fun e w' => e = .returned (.string (fmtD d)) ∧ ∃ y, w' = ext w y := by
  have HD := Lib.hid hd
  have hn := hd.n
  obtain ⟨t, ht⟩ : ∃ t, dbB d = t := ⟨_, rfl⟩
  have HT := Lib.hid ht
  clear hd
  cases t with
  | false =>
    have HE := Lib.hid (show fmtD d = ⟨#[]⟩ by unfold fmtD; rw [ht]; rfl)
    clear ht
    go_enter Try.func18, Try.ntmps18
    go_wp2_with (go_at_call 63; refine (IsValidDatabase_w HD.out (h1.toExt (by refine Chg.isExt (F := []) ?_ (refl_ext _) (by simp); repeat (with_reducible (first | exact Chg.refl _ _ | exact Nat.le_refl _ | exact Chg.ofExt (by assumption) | refine Chg.trans0 ?_ (by assumption) | refine Chg.extS ?_ _ | refine Chg.alloc ?_ _ | refine Chg.drew ?_ | refine Chg.setCellE ?_ ?_ _ | refine le_addk ?_ _ | refine le_ext ?_ | refine le_alloc ?_ _ | refine le_setC ?_ _ _ | refine le_drew ?_ | assumption | (refine Nat.le_of_lt ?_; omega) | omega))))).mono ?_; rintro e w1 ⟨rfl, hx1⟩; rw [HT.out])
    go_ret
    exact ⟨by rw [HE.out]; rfl, (by refine Chg.isExt (F := []) ?_ (refl_ext _) (by simp); repeat (with_reducible (first | exact Chg.refl _ _ | exact Nat.le_refl _ | exact Chg.ofExt (by assumption) | refine Chg.trans0 ?_ (by assumption) | refine Chg.extS ?_ _ | refine Chg.alloc ?_ _ | refine Chg.drew ?_ | refine Chg.setCellE ?_ ?_ _ | refine le_addk ?_ _ | refine le_ext ?_ | refine le_alloc ?_ _ | refine le_setC ?_ _ _ | refine le_drew ?_ | assumption | (refine Nat.le_of_lt ?_; omega) | omega)))⟩
  | true =>
    have HE := Lib.hid (show fmtD d = fdG ⟨#[]⟩ d by unfold fmtD; rw [if_pos ht])
    have HK := Lib.hid (dbB_iff.1 ht).2.1
    have hn6 := (dbB_iff.1 ht).1
    clear ht
    go_enter Try.func18, Try.ntmps18
    go_upto_region 2 with (go_at_call 63; refine (IsValidDatabase_w HD.out (h1.toExt (by refine Chg.isExt (F := []) ?_ (refl_ext _) (by simp); repeat (with_reducible (first | exact Chg.refl _ _ | exact Nat.le_refl _ | exact Chg.ofExt (by assumption) | refine Chg.trans0 ?_ (by assumption) | refine Chg.extS ?_ _ | refine Chg.alloc ?_ _ | refine Chg.drew ?_ | refine Chg.setCellE ?_ ?_ _ | refine le_addk ?_ _ | refine le_ext ?_ | refine le_alloc ?_ _ | refine le_setC ?_ _ _ | refine le_drew ?_ | assumption | (refine Nat.le_of_lt ?_; omega) | omega))))).mono ?_; rintro e w1 ⟨rfl, hx1⟩; rw [HT.out]; have P1 := (BoxAt.new w #[.slice A d.length c] 29).toExt hx1; obtain ⟨l1, p1, f1⟩ := bx1 P1)
    have hxw : ∃ y, w1 = ext w y := (by refine Chg.isExt (F := []) ?_ (refl_ext _) (by simp); repeat (with_reducible (first | exact Chg.refl _ _ | exact Nat.le_refl _ | exact Chg.ofExt (by assumption) | refine Chg.trans0 ?_ (by assumption) | refine Chg.extS ?_ _ | refine Chg.alloc ?_ _ | refine Chg.drew ?_ | refine Chg.setCellE ?_ ?_ _ | refine le_addk ?_ _ | refine le_ext ?_ | refine le_alloc ?_ _ | refine le_setC ?_ _ _ | refine le_drew ?_ | assumption | (refine Nat.le_of_lt ?_; omega) | omega)))
    go_wp2
    clear l1 p1 f1
    go_loopw [3, 12] (fun v i wr => ∃ (k : Nat) (acc : ByteArray), i = .int .i64 k ∧ v = .string acc ∧ k ≤ d.length ∧ acc.size ≤ 2000 * k ∧ Hid (fdG acc (d.drop k) = fdG ⟨#[]⟩ d) ∧ ∃ y, wr = ext w1 y) (fun _ i _ => d.length - (intOf i).toNat)
    case atStart => exact ⟨0, _, rfl, rfl, by omega, by decide, Lib.hid (by simp), refl_ext _⟩
    case round =>
      obtain ⟨k, acc, rfl, rfl, hk, ha, Hj, hy⟩ := hrel
      have hw := trans_ext hxw hy
      by_cases hlt : k < d.length
      · obtain ⟨b, o, A1, c1, rfl, hb, hc, hc1, hc2, hvx⟩ := (h1.toExt hw).atT hlt
        have lx2 := HD.out.rn _ (List.getElem_mem hlt)
        have HXL := Lib.hid (HD.out.rl _ (List.getElem_mem hlt))
        have HLT := Lib.hid (lineT_sz (HK.out _ (List.getElem_mem hlt)))
        have e := Hj.out
        rw [fdG_step hlt] at e
        have hv := (vII_get (vRel_get hvx).2).2
        have hsz := HLT.out
        obtain ⟨x, hx⟩ : ∃ x, d[k] = x := ⟨_, rfl⟩
        rw [hx] at e hc hc1 hc2 lx2 HXL hv hsz
        obtain ⟨f, hf⟩ : ∃ f, fmtR x.2 = f := ⟨_, rfl⟩
        have HFM := Lib.hid (show fmtR (x.2.1, x.2.2) = f from hf)
        have hsz2 : (x.1 ++ ⟨#[61]⟩ ++ f).size ≤ 1754 := by rw [← hf]; exact hsz
        rw [ba_size, ba_size, show (ByteArray.mk #[61]).size = 1 from rfl] at hsz2
        have q61 : (ByteArray.mk #[61]).size = 1 := rfl
        have q10 : (ByteArray.mk #[10]).size = 1 := rfl
        unfold lineT at e
        rw [hf] at e
        clear hx hf hvx HLT hsz
        have HJ2 := Lib.hid e
        clear e
        go_upto_region 7 with fail
        refine wp_name ?_
        intro W2 hW2
        have xW2 : ∃ y, W2 = ext wr y := by rw [hW2.out]; exact (by refine Chg.isExt (F := []) ?_ (refl_ext _) (by simp); repeat (with_reducible (first | exact Chg.refl _ _ | exact Nat.le_refl _ | exact Chg.ofExt (by assumption) | refine Chg.trans0 ?_ (by assumption) | refine Chg.extS ?_ _ | refine Chg.alloc ?_ _ | refine Chg.drew ?_ | refine Chg.setCellE ?_ ?_ _ | refine le_addk ?_ _ | refine le_ext ?_ | refine le_alloc ?_ _ | refine le_setC ?_ _ _ | refine le_drew ?_ | assumption | (refine Nat.le_of_lt ?_; omega) | omega)))
        have T2 : BoxAt W2 wr.heap.size #[.string x.1, .int .i64 x.2.1, .slice A1 x.2.2.length c1] := by rw [hW2.out]; exact (by repeat (with_reducible (first | assumption | exact BoxAt.new _ _ _ | apply BoxAt.set3 | refine BoxAt.set3' ?_ (by omega) | apply BoxAt.set30 | apply BoxAt.set31 | apply BoxAt.set32 | apply BoxAt.set2 | refine BoxAt.set2' ?_ (by omega) | apply BoxAt.setP0 | apply BoxAt.setP1 | refine BoxAt.setO ?_ (by omega) | refine BoxAt.alloc ?_ _ | refine BoxAt.drew ?_ | refine BoxAt.toExt ?_ (by assumption))))
        have hv2 := hv.toExt xW2
        have hy2 := trans_ext hy xW2
        obtain ⟨l2, a2, a3, a4, f2⟩ := box3 T2
        clear hW2 hc hc1 hc2 T2
        have z1 := ba_size x.1 ⟨#[61]⟩
        have z2 := ba_size (x.1 ++ ⟨#[61]⟩) f
        have z3 := ba_size (x.1 ++ ⟨#[61]⟩ ++ f) ⟨#[10]⟩
        have z4 := ba_size acc (x.1 ++ ⟨#[61]⟩ ++ f ++ ⟨#[10]⟩)
        refine wp_region_ext (by kernel_rfl) (by kernel_rfl) ?_
        repeat (go_big_quiet_step ((go_at_call 54; exact quietEs (FormatRelation_w lx2 HXL.out hv2.ext) HFM.out)))
        refine wpQuiet_nil ?_
        rintro _ ⟨zz, rfl⟩
        go_wp2
        exact ⟨⟨k + 1, acc ++ (x.1 ++ ⟨#[61]⟩ ++ f ++ ⟨#[10]⟩), by go_num, rfl, by omega, by omega, HJ2, (by refine Chg.isExt (F := []) ?_ (refl_ext _) (by simp); repeat (with_reducible (first | exact Chg.refl _ _ | exact Nat.le_refl _ | exact Chg.ofExt (by assumption) | refine Chg.trans0 ?_ (by assumption) | refine Chg.extS ?_ _ | refine Chg.alloc ?_ _ | refine Chg.drew ?_ | refine Chg.setCellE ?_ ?_ _ | refine le_addk ?_ _ | refine le_ext ?_ | refine le_alloc ?_ _ | refine le_setC ?_ _ _ | refine le_drew ?_ | assumption | (refine Nat.le_of_lt ?_; omega) | omega)))⟩, by simp [intOf]; omega⟩
      · have e := Hj.out
        rw [fdG_end hlt] at e
        have He := Lib.hid (show acc = fmtD d by rw [e, HE.out])
        clear e
        go_wp2
        go_ret
        exact ⟨by rw [← He.out]; rfl, (by refine Chg.isExt (F := []) ?_ (refl_ext _) (by simp); repeat (with_reducible (first | exact Chg.refl _ _ | exact Nat.le_refl _ | exact Chg.ofExt (by assumption) | refine Chg.trans0 ?_ (by assumption) | refine Chg.extS ?_ _ | refine Chg.alloc ?_ _ | refine Chg.drew ?_ | refine Chg.setCellE ?_ ?_ _ | refine le_addk ?_ _ | refine le_ext ?_ | refine le_alloc ?_ _ | refine le_setC ?_ _ _ | refine le_drew ?_ | assumption | (refine Nat.le_of_lt ?_; omega) | omega)))⟩
set_option maxRecDepth 100000 in
set_option maxHeartbeats 4000000 in
theorem specFormatDatabase_any {A : Option Addr} {c : Nat} {d : Dbd} {w : World} (hd : WDb d) (h1 : RV 3 vTb w A d) :
    Calls Try.prog 16 #[.agg #[.slice A d.length c]] w fun e w' => e = .returned (.string (fmtD d)) ∧ ∃ y, w' = ext w y := by
  have HD := Lib.hid hd
  have hn := hd.n
  obtain ⟨t, ht⟩ : ∃ t, dbB d = t := ⟨_, rfl⟩
  have HT := Lib.hid ht
  have HN0 := Lib.hid (show ¬ 0 < d.length → fmtD d = ⟨#[]⟩ from fun h0 => by
    have : d = [] := List.eq_nil_of_length_eq_zero (by omega)
    subst this
    rfl)
  clear hd
  go_enter Try.func16, Try.ntmps16
  go_upto_region 1 with fail
  refine wp_name ?_
  intro W hW
  have xW : ∃ y, W = ext w y := by rw [hW.out]; exact (by refine Chg.isExt (F := []) ?_ (refl_ext _) (by simp); repeat (with_reducible (first | exact Chg.refl _ _ | exact Nat.le_refl _ | exact Chg.ofExt (by assumption) | refine Chg.trans0 ?_ (by assumption) | refine Chg.extS ?_ _ | refine Chg.alloc ?_ _ | refine Chg.drew ?_ | refine Chg.setCellE ?_ ?_ _ | refine le_addk ?_ _ | refine le_ext ?_ | refine le_alloc ?_ _ | refine le_setC ?_ _ _ | refine le_drew ?_ | assumption | (refine Nat.le_of_lt ?_; omega) | omega)))
  have PW : BoxAt W w.heap.size #[.slice A d.length c] := by rw [hW.out]; exact (by repeat (with_reducible (first | assumption | exact BoxAt.new _ _ _ | apply BoxAt.set10 | apply BoxAt.set2 | refine BoxAt.set2' ?_ (by omega) | apply BoxAt.setP0 | apply BoxAt.setP1 | refine BoxAt.setO ?_ (by omega) | refine BoxAt.alloc ?_ _ | refine BoxAt.drew ?_ | refine BoxAt.toExt ?_ (by assumption))))
  clear hW
  go_wp2
  cases t with
  | false =>
    have HE := Lib.hid (show fmtD d = ⟨#[]⟩ by unfold fmtD; rw [ht]; rfl)
    clear ht
    go_loopw [3, 4] (fun v i wr => i = .int .i64 0 ∧ v = .string ⟨#[]⟩ ∧ ∃ y, wr = ext W y) (fun _ _ _ => 0)
    case atStart => exact ⟨rfl, rfl, refl_ext _⟩
    case round =>
      obtain ⟨rfl, rfl, hy⟩ := hrel
      have hw := trans_ext xW hy
      obtain ⟨lp, p0, fp⟩ := bx1 (PW.toExt hy)
      by_cases h0 : 0 < d.length
      · go_wp2_with (go_at_call 60; refine (specIsValidDatabase_w HD.out (h1.toExt hw)).mono ?_; rintro e w1 ⟨rfl, hx1⟩; rw [HT.out])
        go_ret
        exact ⟨by rw [HE.out]; rfl, (by refine Chg.isExt (F := []) ?_ (refl_ext _) (by simp); repeat (with_reducible (first | exact Chg.refl _ _ | exact Nat.le_refl _ | exact Chg.ofExt (by assumption) | refine Chg.trans0 ?_ (by assumption) | refine Chg.extS ?_ _ | refine Chg.alloc ?_ _ | refine Chg.drew ?_ | refine Chg.setCellE ?_ ?_ _ | refine le_addk ?_ _ | refine le_ext ?_ | refine le_alloc ?_ _ | refine le_setC ?_ _ _ | refine le_drew ?_ | assumption | (refine Nat.le_of_lt ?_; omega) | omega)))⟩
      · go_wp2
        go_ret
        exact ⟨by rw [HE.out]; rfl, (by refine Chg.isExt (F := []) ?_ (refl_ext _) (by simp); repeat (with_reducible (first | exact Chg.refl _ _ | exact Nat.le_refl _ | exact Chg.ofExt (by assumption) | refine Chg.trans0 ?_ (by assumption) | refine Chg.extS ?_ _ | refine Chg.alloc ?_ _ | refine Chg.drew ?_ | refine Chg.setCellE ?_ ?_ _ | refine le_addk ?_ _ | refine le_ext ?_ | refine le_alloc ?_ _ | refine le_setC ?_ _ _ | refine le_drew ?_ | assumption | (refine Nat.le_of_lt ?_; omega) | omega)))⟩
  | true =>
    have HE := Lib.hid (show fmtD d = fdG ⟨#[]⟩ d by unfold fmtD; rw [if_pos ht])
    have HK := Lib.hid (dbB_iff.1 ht).2.1
    have hn6 := (dbB_iff.1 ht).1
    clear ht
    go_loopw [3, 4] (fun v i wr => ∃ (k : Nat) (acc : ByteArray), i = .int .i64 k ∧ v = .string acc ∧ k ≤ d.length ∧ acc.size ≤ 2000 * k ∧ Hid (fdG acc (d.drop k) = fdG ⟨#[]⟩ d) ∧ ∃ y, wr = ext W y) (fun _ i _ => d.length - (intOf i).toNat)
    case atStart => exact ⟨0, _, rfl, rfl, by omega, by decide, Lib.hid (by simp), refl_ext _⟩
    case round =>
      obtain ⟨k, acc, rfl, rfl, hk, ha, Hj, hy⟩ := hrel
      have hw := trans_ext xW hy
      obtain ⟨lp, p0, fp⟩ := bx1 (PW.toExt hy)
      by_cases hlt : k < d.length
      · go_upto_region 5 with (go_at_call 60; refine (specIsValidDatabase_w HD.out (h1.toExt hw)).mono ?_; rintro e w1 ⟨rfl, hx1⟩; rw [HT.out])
        have hy := trans_ext hy hx1
        have hw := trans_ext xW hy
        clear lp p0 fp
        obtain ⟨lp, p0, fp⟩ := bx1 (PW.toExt hy)
        obtain ⟨b, o, A1, c1, rfl, hb, hc, hc1, hc2, hvx⟩ := (h1.toExt hw).atT hlt
        have lx2 := HD.out.rn _ (List.getElem_mem hlt)
        have HXL := Lib.hid (HD.out.rl _ (List.getElem_mem hlt))
        have HLT := Lib.hid (lineT_sz (HK.out _ (List.getElem_mem hlt)))
        have e := Hj.out
        rw [fdG_step hlt] at e
        have hv := (vII_get (vRel_get hvx).2).2
        have hsz := HLT.out
        obtain ⟨x, hx⟩ : ∃ x, d[k] = x := ⟨_, rfl⟩
        rw [hx] at e hc hc1 hc2 lx2 HXL hv hsz
        obtain ⟨f, hf⟩ : ∃ f, fmtR x.2 = f := ⟨_, rfl⟩
        have HFM := Lib.hid (show fmtR (x.2.1, x.2.2) = f from hf)
        have hsz2 : (x.1 ++ ⟨#[61]⟩ ++ f).size ≤ 1754 := by rw [← hf]; exact hsz
        rw [ba_size, ba_size, show (ByteArray.mk #[61]).size = 1 from rfl] at hsz2
        have q61 : (ByteArray.mk #[61]).size = 1 := rfl
        have q10 : (ByteArray.mk #[10]).size = 1 := rfl
        unfold lineT at e
        rw [hf] at e
        clear hx hf hvx HLT hsz
        have z1 := ba_size acc x.1
        have z2 := ba_size (acc ++ x.1) ⟨#[61]⟩
        have z3 := ba_size (acc ++ x.1 ++ ⟨#[61]⟩) f
        have z4 := ba_size (acc ++ x.1 ++ ⟨#[61]⟩ ++ f) ⟨#[10]⟩
        have HJ2 := Lib.hid (show fdG (acc ++ x.1 ++ ⟨#[61]⟩ ++ f ++ ⟨#[10]⟩) (d.drop (k + 1)) = fdG ⟨#[]⟩ d by rw [← e]; simp only [ba3])
        clear e
        refine wp_region_ext (by kernel_rfl) (by kernel_rfl) ?_
        repeat (go_big_quiet_step ((go_at_call 86; exact quietEs (specFormatRelation_w lx2 HXL.out hv.ext) HFM.out)))
        refine wpQuiet_nil ?_
        rintro _ ⟨zz, rfl⟩
        go_wp2
        exact ⟨⟨k + 1, acc ++ x.1 ++ ⟨#[61]⟩ ++ f ++ ⟨#[10]⟩, by go_num, rfl, by omega, by omega, HJ2, (by refine Chg.isExt (F := []) ?_ (refl_ext _) (by simp); repeat (with_reducible (first | exact Chg.refl _ _ | exact Nat.le_refl _ | exact Chg.ofExt (by assumption) | refine Chg.trans0 ?_ (by assumption) | refine Chg.extS ?_ _ | refine Chg.alloc ?_ _ | refine Chg.drew ?_ | refine Chg.setCellE ?_ ?_ _ | refine le_addk ?_ _ | refine le_ext ?_ | refine le_alloc ?_ _ | refine le_setC ?_ _ _ | refine le_drew ?_ | assumption | (refine Nat.le_of_lt ?_; omega) | omega)))⟩, by simp [intOf]; omega⟩
      · have e := Hj.out
        rw [fdG_end hlt] at e
        have He := Lib.hid (show acc = fmtD d by rw [e, HE.out])
        clear e
        go_wp2
        go_ret
        exact ⟨by rw [← He.out]; rfl, (by refine Chg.isExt (F := []) ?_ (refl_ext _) (by simp); repeat (with_reducible (first | exact Chg.refl _ _ | exact Nat.le_refl _ | exact Chg.ofExt (by assumption) | refine Chg.trans0 ?_ (by assumption) | refine Chg.extS ?_ _ | refine Chg.alloc ?_ _ | refine Chg.drew ?_ | refine Chg.setCellE ?_ ?_ _ | refine le_addk ?_ _ | refine le_ext ?_ | refine le_alloc ?_ _ | refine le_setC ?_ _ _ | refine le_drew ?_ | assumption | (refine Nat.le_of_lt ?_; omega) | omega)))⟩
end Go.Proofs.Ytfigcfajkilhiaa

/- Lists of numbers read from text: the program's way. -/
namespace Go.Proofs.Ytfigcfajkilhiaa
open Go.RowKit
theorem plG_some {acc : List Int} {ws : List ByteArray} {k : Nat} {n : Int} (h : k < ws.length) (e : pInt ws[k] = some n) : plG acc (ws.drop k) = plG (acc ++ [n]) (ws.drop (k + 1)) := by
  rw [List.drop_eq_getElem_cons h, plG, e]
theorem plG_none {acc : List Int} {ws : List ByteArray} {k : Nat} (h : k < ws.length) (e : pInt ws[k] = none) : plG acc (ws.drop k) = none := by
  rw [List.drop_eq_getElem_cons h, plG, e]
theorem plG_end {acc : List Int} {ws : List ByteArray} {k : Nat} (h : ¬ k < ws.length) : plG acc (ws.drop k) = some acc := by
  rw [List.drop_eq_nil_of_le (by omega), plG]
theorem plG_facts : ∀ {ws : List ByteArray} {acc l : List Int}, plG acc ws = some l → l.length = acc.length + ws.length ∧ ((∀ v ∈ acc, I64 v) → ∀ v ∈ l, I64 v)
  | [], acc, l, h => by injection h with h; subst h; exact ⟨by simp, fun h => h⟩
  | w :: ws, acc, l, h => by
    rw [plG] at h
    split at h
    · cases h
    · rename_i n hn
      obtain ⟨h1, h2⟩ := plG_facts h
      have := pInt_bd hn
      refine ⟨by rw [h1]; simp; omega, fun ha => h2 fun v hv => ?_⟩
      rcases List.mem_append.1 hv with e | e
      · exact ha v e
      · rw [List.mem_singleton.1 e]
        exact ⟨by omega, by omega⟩
theorem pList_facts {s : ByteArray} {l : List Int} (h : pList s = some l) : l.length ≤ s.size + 1 ∧ ∀ v ∈ l, I64 v := by
  unfold pList at h
  split at h
  · injection h with h; subst h; simp
  · obtain ⟨h1, h2⟩ := plG_facts h
    have := splB_length 44 s
    exact ⟨by rw [h1]; simpa using this, h2 (by simp)⟩
theorem spl_at {c : UInt8} {s : ByteArray} {k : Nat} (hs : s.size ≤ 1000000000) (h : k < (splB c s).length) : (splB c s)[k].size ≤ 1000000000 := Nat.le_trans (splB_piece (List.getElem_mem h)) hs
/-- what is handed back: the numbers, or none -/
def PlRes (s : ByteArray) (w : World) (e : Ending) (w' : World) : Prop := ∃ v F, e = .returned (.tuple #[v, .bool (pList s).isSome]) ∧ (∃ y, w' = ext w y) ∧ SV 3 1 sI w' v ((pList s).getD []) F ∧ ∀ b ∈ F, w.heap.size ≤ b
set_option maxHeartbeats 1000000 in
theorem parseList_any {s : ByteArray} {w : World} (hs : s.size ≤ 1000000000) : Calls Try.prog 131 #[.string s, .int .u8 44] w (PlRes s w) := by
  by_cases h0 : s.size = 0
  · have he := isEmpty_yes h0
    have HR := Lib.hid (show pList s = some [] by unfold pList; rw [if_pos h0])
    clear h0
    go_enter Try.func131, Try.ntmps131
    go_wp2
    go_ret2
    exact ⟨_, [], by rw [HR.out]; rfl, refl_ext w, by rw [HR.out]; exact SV.nil, by simp⟩
  · have he := isEmpty_no (s := s) (by omega)
    have HR := Lib.hid (show pList s = plG [] (splB 44 s) by unfold pList; rw [if_neg h0])
    have hlen := splB_length 44 s
    obtain ⟨n, hn⟩ : ∃ n, (splB 44 s).length = n := ⟨_, rfl⟩
    have HN := Lib.hid hn
    have hn1 : (splB 44 s).length ≤ n := by omega
    have hn2 : n ≤ (splB 44 s).length := by omega
    have hn3 : n ≤ 1000000001 := by omega
    clear h0 hn
    go_enter Try.func131, Try.ntmps131
    go_wp2_with (go_at_call 99; refine (split_c 44 44 hs HN.out (by decide)).mono ?_; rintro e w1 ⟨A1, c1, rfl, hx1, r1⟩)
    go_loopw [6, 17] (fun v i wr => ∃ (k : Nat) (ds : List Int) (F : List Nat), i = .int .i64 k ∧ k ≤ n ∧ SV 3 1 sI wr v ds F ∧ (∀ b ∈ F, w1.heap.size ≤ b) ∧ (∃ y, wr = ext w1 y) ∧ ds.length = k ∧ plG ds ((splB 44 s).drop k) = plG [] (splB 44 s)) (fun _ i _ => n - (intOf i).toNat)
    case atStart => exact ⟨0, [], [], rfl, by omega, SV.nil, by simp, refl_ext _, rfl, by simp⟩
    case round =>
      obtain ⟨k, ds, F, rfl, hk, hS, hF, hy, hl, hj⟩ := hrel
      have Hj := Lib.hid hj
      have HF := Lib.hid hF
      have Hl := Lib.hid hl
      have hl1 : ds.length ≤ k := by omega
      have hwr : ∃ y, wr = ext w y := trans_ext (by repeat (with_reducible (first | exact refl_ext _ | exact alloc_ext _ _ | exact drew_ext _ | assumption | refine trans_ext ?_ (drew_ext _) | refine trans_ext ?_ (alloc_ext _ _) | refine trans_ext ?_ (by assumption)))) hy
      clear hj hF hl
      by_cases hlt : k < n
      · have hlt2 : k < (splB 44 s).length := by omega
        have hsk := spl_at hs hlt2
        obtain ⟨b, o, rfl, hb, hc⟩ := (r1.toExt hy).atS hlt2
        obtain ⟨p, hp⟩ : ∃ p, (splB 44 s)[k] = p := ⟨_, rfl⟩
        rw [hp] at hsk hc
        obtain ⟨o, ho⟩ : ∃ o, pInt p = o := ⟨_, rfl⟩
        cases o with
        | some r =>
          have HE := Lib.hid (show plG (ds ++ [r]) ((splB 44 s).drop (k + 1)) = plG [] (splB 44 s) by rw [← Hj.out, plG_some hlt2 (by rw [hp]; exact ho)])
          have Hr := Lib.hid ho
          clear ho hp
          go_wp2_with (first
            | (go_at_call 130; refine (ParseInt_any hsk).mono ?_; unfold PiRes; rintro e w2 ⟨rfl, hx2⟩; rw [Hr.out]; simp only [Option.getD_some, Option.isSome_some])
            | (at_builtin; refine wpList_app1 (E := sI) (d := r) rfl _ _ _ rfl tI rfl rfl rfl (by simp) (fun _ => ⟨rfl, rfl⟩) rfl (by simp [Value.oneCell']) (hS.toExt (by refine Chg.isExt (F := []) ?_ (refl_ext _) (by simp); repeat (with_reducible (first | exact Chg.refl _ _ | exact Nat.le_refl _ | exact Chg.ofExt (by assumption) | refine Chg.trans0 ?_ (by assumption) | refine Chg.extS ?_ _ | refine Chg.alloc ?_ _ | refine Chg.drew ?_ | refine Chg.setCellE ?_ ?_ _ | refine le_addk ?_ _ | refine le_ext ?_ | refine le_alloc ?_ _ | refine le_setC ?_ _ _ | refine le_drew ?_ | assumption | (refine Nat.le_of_lt ?_; omega) | omega)))) (by omega) (by omega) ?_; intro v' w' F' hS' hC' hF'))
          exact ⟨⟨k + 1, ds ++ [r], F', by go_num, by omega, hS', newer HF.out (size_of_ext (by refine Chg.isExt (F := []) ?_ (refl_ext _) (by simp); repeat (with_reducible (first | exact Chg.refl _ _ | exact Nat.le_refl _ | exact Chg.ofExt (by assumption) | refine Chg.trans0 ?_ (by assumption) | refine Chg.extS ?_ _ | refine Chg.alloc ?_ _ | refine Chg.drew ?_ | refine Chg.setCellE ?_ ?_ _ | refine le_addk ?_ _ | refine le_ext ?_ | refine le_alloc ?_ _ | refine le_setC ?_ _ _ | refine le_drew ?_ | assumption | (refine Nat.le_of_lt ?_; omega) | omega)))) hF', hC'.isExt (by refine Chg.isExt (F := []) ?_ (refl_ext _) (by simp); repeat (with_reducible (first | exact Chg.refl _ _ | exact Nat.le_refl _ | exact Chg.ofExt (by assumption) | refine Chg.trans0 ?_ (by assumption) | refine Chg.extS ?_ _ | refine Chg.alloc ?_ _ | refine Chg.drew ?_ | refine Chg.setCellE ?_ ?_ _ | refine le_addk ?_ _ | refine le_ext ?_ | refine le_alloc ?_ _ | refine le_setC ?_ _ _ | refine le_drew ?_ | assumption | (refine Nat.le_of_lt ?_; omega) | omega))) HF.out, by simp [Hl.out], HE.out⟩, by simp [intOf]; omega⟩
        | none =>
          have HE := Lib.hid (show pList s = none by rw [HR.out, ← Hj.out, plG_none hlt2 (by rw [hp]; exact ho)])
          have Hr := Lib.hid ho
          clear ho hp
          go_wp2_with (first
            | (go_at_call 130; refine (ParseInt_any hsk).mono ?_; unfold PiRes; rintro e w2 ⟨rfl, hx2⟩; rw [Hr.out]; simp only [Option.getD_none, Option.isSome_none]))
          go_ret2
          exact ⟨_, [], by rw [HE.out]; rfl, trans_ext hwr (by refine Chg.isExt (F := []) ?_ (refl_ext _) (by simp); repeat (with_reducible (first | exact Chg.refl _ _ | exact Nat.le_refl _ | exact Chg.ofExt (by assumption) | refine Chg.trans0 ?_ (by assumption) | refine Chg.extS ?_ _ | refine Chg.alloc ?_ _ | refine Chg.drew ?_ | refine Chg.setCellE ?_ ?_ _ | refine le_addk ?_ _ | refine le_ext ?_ | refine le_alloc ?_ _ | refine le_setC ?_ _ _ | refine le_drew ?_ | assumption | (refine Nat.le_of_lt ?_; omega) | omega))), by rw [HE.out]; exact SV.nil, by simp⟩
      · have e := Hj.out
        rw [plG_end (by omega)] at e
        have HE := Lib.hid (show pList s = some ds by rw [HR.out, e])
        clear e
        go_wp2
        go_ret2
        exact ⟨_, F, by rw [HE.out]; rfl, hwr, by rw [HE.out]; exact hS, fun b hb => Nat.le_trans (size_of_ext (by repeat (with_reducible (first | exact refl_ext _ | exact alloc_ext _ _ | exact drew_ext _ | assumption | refine trans_ext ?_ (drew_ext _) | refine trans_ext ?_ (alloc_ext _ _) | refine trans_ext ?_ (by assumption))))) (HF.out b hb)⟩
end Go.Proofs.Ytfigcfajkilhiaa

/- Relations read from text: the program's way. -/
namespace Go.Proofs.Ytfigcfajkilhiaa
open Go.RowKit
theorem prG_step {acc : List (List Int)} {ws : List ByteArray} {k : Nat} (h : k < ws.length) : prG acc (ws.drop k) = (if ws[k].size < 2 then none else match pList (ws[k].extract 1 (ws[k].size - 1)) with | none => none | some r => prG (acc ++ [r]) (ws.drop (k + 1))) := by
  rw [List.drop_eq_getElem_cons h, prG] <;> rfl
theorem prG_end {acc : List (List Int)} {ws : List ByteArray} {k : Nat} (h : ¬ k < ws.length) : prG acc (ws.drop k) = some acc := by
  rw [List.drop_eq_nil_of_le (by omega), prG]
set_option maxRecDepth 100000 in
set_option maxHeartbeats 16000000 in
theorem ParseRelation_any {s : ByteArray} {w : World} (hs : s.size ≤ 1048576) : Calls Try.prog 53 #[.string s] w (RelOut (pRel s) w) := by
  have hpos := splB_pos 58 s
  obtain ⟨p, hp⟩ : ∃ p, (splB 58 s).getD 0 ⟨#[]⟩ = p := ⟨_, rfl⟩
  have HP := Lib.hid hp
  have hps : p.size ≤ s.size := by
    rw [← hp, show (splB 58 s).getD 0 ⟨#[]⟩ = (splB 58 s)[0] by simp [List.getD_eq_getElem?_getD, hpos]]
    exact splB_piece (List.getElem_mem hpos)
  obtain ⟨ws, hws⟩ : ∃ ws, splB 58 s = ws := ⟨_, rfl⟩
  have HW := Lib.hid hws
  rw [hws] at hpos HP
  have hw58 : ws.length ≤ s.size + 1 := by rw [← hws]; exact splB_length 58 s
  clear hp hws
  go_enter Try.func53, Try.ntmps53
  go_upto_region 1 with fail
  refine wp_name ?_
  intro W hW
  have xW : ∃ y, W = ext w y := by rw [hW.out]; exact (by refine Chg.isExt (F := []) ?_ (refl_ext _) (by simp); repeat (with_reducible (first | exact Chg.refl _ _ | exact Nat.le_refl _ | exact Chg.ofExt (by assumption) | refine Chg.trans0 ?_ (by assumption) | refine Chg.extS ?_ _ | refine Chg.alloc ?_ _ | refine Chg.drew ?_ | refine Chg.setCellE ?_ ?_ _ | refine le_addk ?_ _ | refine le_ext ?_ | refine le_alloc ?_ _ | refine le_setC ?_ _ _ | refine le_drew ?_ | assumption | (refine Nat.le_of_lt ?_; omega) | omega)))
  have BW0 : BoxAt W (w.heap.size) #[.int .i64 0, .slice none 0 0] := by rw [hW.out]; refine ⟨?_, fun j => ?_, fun j => ?_⟩ <;> go_simp
  obtain ⟨lW0, bW0, fW0⟩ := BW0
  have cW0_0 : W.cell? ⟨w.heap.size, 0, none⟩ = some (.int .i64 0) := bW0 0
  have cW0_1 : W.cell? ⟨w.heap.size, 1, none⟩ = some (.slice none 0 0) := bW0 1
  clear hW
  have RW : BoxAt W w.heap.size #[.int .i64 0, .slice none 0 0] := ⟨lW0, bW0, fW0⟩
  clear bW0 fW0 cW0_0 cW0_1
  go_wp2_with fail
  refine (split_m 58 58 (by omega) (by decide)).mono ?_
  rintro e w1 ⟨vw, Fw, rfl, hx1, hSw, hFw⟩
  rw [HW.out] at hSw
  obtain ⟨A1, c1, rfl, _, _, r1⟩ := hSw.view sS_v
  have hx01 := trans_ext xW hx1
  have R1 := RW.toExt hx1
  obtain ⟨b1, o1, rfl, hb1, hc1⟩ := r1.atS1 hpos HP.out
  clear hSw hFw RW lW0
  go_wp2_with fail
  refine (ParseInt_any (by omega)).mono ?_
  unfold PiRes
  rintro e w2 ⟨rfl, hx2⟩
  obtain ⟨l2, k2, k2', f2⟩ := bx2 (R1.toExt hx2)
  have R2 := R1.toExt hx2
  have hx02 := trans_ext hx01 hx2
  have r2 := r1.toExt hx2
  clear R1
  cases ho : pInt p with
  | none =>
    have HZ := Lib.hid (show pRel s = none by unfold pRel; rw [HW.out, HP.out, ho])
    simp only [Option.getD_none, Option.isSome_none]
    clear ho
    go_wp2
    refine bodyPost_ret (v := .tuple #[.agg #[.int .i64 0, .slice none 0 0], .bool false]) (by simp [results, Try.results53, go_sem, *]) rfl (relOut_none HZ.out rfl (by refine Chg.isExt (F := []) ?_ (refl_ext _) (by simp); repeat (with_reducible (first | exact Chg.refl _ _ | exact Nat.le_refl _ | exact Chg.ofExt (by assumption) | refine Chg.trans0 ?_ (by assumption) | refine Chg.extS ?_ _ | refine Chg.alloc ?_ _ | refine Chg.drew ?_ | refine Chg.setCellE ?_ ?_ _ | refine le_addk ?_ _ | refine le_ext ?_ | refine le_alloc ?_ _ | refine le_setC ?_ _ _ | refine le_drew ?_ | assumption | (refine Nat.le_of_lt ?_; omega) | omega))))
  | some a =>
    have hab := pInt_bd ho
    by_cases hl : ws.length = 2
    · have q1 : ((ws.length : Int) != 2) = false := by simp [hl]
      have h2w : 1 < ws.length := by omega
      obtain ⟨p2, hp2⟩ : ∃ p, ws.getD 1 ⟨#[]⟩ = p := ⟨_, rfl⟩
      have hps2 : p2.size ≤ s.size := by
        rw [← hp2, show ws.getD 1 ⟨#[]⟩ = ws[1] by simp [List.getD_eq_getElem?_getD, h2w]]
        have := splB_piece (c := 58) (s := s) (p := ws[1]) (by rw [HW.out]; exact List.getElem_mem h2w)
        exact this
      have HP2 := Lib.hid hp2
      have HE := Lib.hid (show pRel s = (if p2.size = 0 then finR (a, []) s else match prG [] (splB 32 p2) with | none => none | some rows => finR (a, rows) s) by
        unfold pRel
        rw [HW.out, HP.out, ho, hp2]
        simp only
        rw [if_pos hl] <;> rfl)
      simp only [Option.getD_some, Option.isSome_some]
      clear hp2 ho hl
      go_upto_region 6 with fail
      refine wp_name ?_
      intro W3 hW3
      have x3 : ∃ y, W3 = ext w2 y := by rw [hW3.out]; exact (by refine Chg.isExt (F := []) ?_ (refl_ext _) (by simp); repeat (with_reducible (first | exact Chg.refl _ _ | exact Nat.le_refl _ | exact Chg.ofExt (by assumption) | refine Chg.trans0 ?_ (by assumption) | refine Chg.extS ?_ _ | refine Chg.alloc ?_ _ | refine Chg.drew ?_ | refine Chg.setCellE ?_ ?_ _ | refine le_addk ?_ _ | refine le_ext ?_ | refine le_alloc ?_ _ | refine le_setC ?_ _ _ | refine le_drew ?_ | assumption | (refine Nat.le_of_lt ?_; omega) | omega)))
      have B7 : BoxAt W3 w2.heap.size #[.int .i64 a, .slice none 0 0] := by rw [hW3.out]; exact (by repeat (with_reducible (first | assumption | exact BoxAt.new _ _ _ | apply BoxAt.set2 | refine BoxAt.set2' ?_ (by omega) | apply BoxAt.setP0 | apply BoxAt.setP1 | refine BoxAt.setO ?_ (by omega) | refine BoxAt.alloc ?_ _ | refine BoxAt.drew ?_ | refine BoxAt.toExt ?_ (by assumption))))
      have hb7 : w.heap.size < w2.heap.size := l2
      have R3 := R2.toExt x3
      have r3 := r2.toExt x3
      have hx03 := trans_ext hx02 x3
      obtain ⟨b7, q7⟩ : ∃ b, w2.heap.size = b := ⟨_, rfl⟩
      rw [q7] at B7 hb7 ⊢
      have hb7w : b7 < W3.heap.size := B7.1
      clear hW3 x3 q7 R2 r1 r2 l2 k2 k2' f2 hb1 hc1 hx1 hx2 hx01 hx02 xW
      obtain ⟨b1', o1', e1, hb1, hc1⟩ := r3.atS h2w
      injection e1 with e1
      injection e1 with e1 e2
      subst e1 e2
      rw [show ws[1] = p2 by rw [← HP2.out]; simp [List.getD_eq_getElem?_getD, h2w]] at hc1
      by_cases hz : p2.size = 0
      · have z1 := isEmpty_yes hz
        have z2 : (p2.toList != (ByteArray.mk #[]).toList) = false := str_bnet (bl_inj (size_zero hz))
        have z3 : (p2.toList == (ByteArray.mk #[]).toList) = true := str_beqt (bl_inj (size_zero hz))
        have HE3 := Lib.hid (show pRel s = finR (a, []) s by rw [HE.out, if_pos hz])
        have HS : Hid (SV 48 1 sRow W3 (.slice none ([] : List (List Int)).length 0) [] []) := Lib.hid SV.nil
        have HB := Lib.hid B7
        have HR5 := Lib.hid R3
        have HXr := Lib.hid hx03
        have HRN : Hid (([] : List (List Int)).length ≤ 1000000000) := Lib.hid (by simp)
        have HRL : Hid (∀ x ∈ ([] : List (List Int)), x.length ≤ 1000000000) := Lib.hid (by simp)
        have HN : Hid ([] : List Nat).Nodup := Lib.hid (by simp)
        have HFN : Hid (∀ b ∈ ([] : List Nat), w.heap.size < b) := Lib.hid (by simp)
        clear hz B7 R3
        have hq : sRel W3 [.int .i64 a, .slice none ([] : List (List Int)).length 0] (a, ([] : List (List Int))) [] := sRel_mk ⟨_, rfl, HS.out⟩
        have HQ := Lib.hid hq
        have HV := Lib.hid (vII_get (vRel_get (sRel_v _ _ _ hq)).2).2
        obtain ⟨l7, k7, k7', f7⟩ := bx2 HB.out
        obtain ⟨l5, k5, k5', f5⟩ := bx2 HR5.out
        clear hq
        obtain ⟨t, ht⟩ : ∃ t, fmtR (a, ([] : List (List Int))) = t := ⟨_, rfl⟩
        have HT := Lib.hid ht
        have hs0 : s.size ≠ 0 := by omega
        by_cases hts : t = s
        · have q8 := str_bnet hts
          have q9 := str_beqt hts
          have HE4 := Lib.hid (show pRel s = some (a, ([] : List (List Int))) by rw [HE3.out]; unfold finR; rw [if_pos ⟨ht.trans hts, hs0⟩])
          clear ht hts
          go_wp2_with (go_at_call 54; refine (FormatRelation_w HRN.out HRL.out HV.out).mono ?_; rintro e w8 ⟨rfl, hx8⟩; rw [HT.out]; obtain ⟨l8, k8, k8', f8⟩ := bx2 (HB.out.toExt hx8); obtain ⟨l9, k9, k9', f9⟩ := bx2 (HR5.out.toExt hx8))
          have hX := HXr.out
          have hQ8 : sRel w8 [.int .i64 a, .slice none ([] : List (List Int)).length 0] (a, ([] : List (List Int))) [] := OD.toExt HQ.out hx8
          refine bodyPost_ret (v := .tuple #[.agg #[.int .i64 a, .slice none ([] : List (List Int)).length 0], .bool true]) (by simp [results, Try.results53, go_sem, *]) rfl ⟨_, _, [], by rw [HE4.out]; rfl, (by refine Chg.isExt (F := []) ?_ (refl_ext _) (by simp); repeat (with_reducible (first | exact Chg.refl _ _ | exact Nat.le_refl _ | exact Chg.ofExt (by assumption) | refine Chg.trans0 ?_ (by assumption) | refine Chg.extS ?_ _ | refine Chg.alloc ?_ _ | refine Chg.drew ?_ | refine Chg.setCellE ?_ ?_ _ | refine le_addk ?_ _ | refine le_ext ?_ | refine le_alloc ?_ _ | refine le_setC ?_ _ _ | refine le_drew ?_ | assumption | (refine Nat.le_of_lt ?_; omega) | omega))), by rw [HE4.out]; exact OD.chg (G := [w.heap.size]) hQ8 (by repeat (with_reducible (first | exact Chg.refl _ _ | refine Chg.trans0 ?_ (by assumption) | refine Chg.extS ?_ _ | refine Chg.alloc ?_ _ | refine Chg.drew ?_ | refine Chg.setCell ?_ (.inl (by simp)) _))) (fun b hb h => by have := HFN.out b hb; rw [List.mem_singleton.1 h] at this; omega), HN.out, fun b hb => Nat.le_of_lt (HFN.out b hb)⟩
        · have q8 := str_bnef hts
          have q9 := str_beqf hts
          have HZ := Lib.hid (show pRel s = none by rw [HE3.out]; unfold finR; rw [if_neg (fun h => hts (ht.symm.trans h.1))])
          clear ht hts
          go_wp2_with (go_at_call 54; refine (FormatRelation_w HRN.out HRL.out HV.out).mono ?_; rintro e w8 ⟨rfl, hx8⟩; rw [HT.out]; obtain ⟨l8, k8, k8', f8⟩ := bx2 (HB.out.toExt hx8); obtain ⟨l9, k9, k9', f9⟩ := bx2 (HR5.out.toExt hx8))
          have hX := HXr.out
          refine bodyPost_ret (v := .tuple #[.agg #[.int .i64 0, .slice none 0 0], .bool false]) (by simp [results, Try.results53, go_sem, *]) rfl (relOut_none HZ.out rfl (by refine Chg.isExt (F := []) ?_ (refl_ext _) (by simp); repeat (with_reducible (first | exact Chg.refl _ _ | exact Nat.le_refl _ | exact Chg.ofExt (by assumption) | refine Chg.trans0 ?_ (by assumption) | refine Chg.extS ?_ _ | refine Chg.alloc ?_ _ | refine Chg.drew ?_ | refine Chg.setCellE ?_ ?_ _ | refine le_addk ?_ _ | refine le_ext ?_ | refine le_alloc ?_ _ | refine le_setC ?_ _ _ | refine le_drew ?_ | assumption | (refine Nat.le_of_lt ?_; omega) | omega))))
      · have z1 := isEmpty_no (s := p2) (by omega)
        have z2 := toList_empty (s := p2) (by omega)
        have z3 : (p2.toList != (ByteArray.mk #[]).toList) = true := by rw [bne, z2]; rfl
        obtain ⟨xs, hxs⟩ : ∃ xs, splB 32 p2 = xs := ⟨_, rfl⟩
        have HE2 := Lib.hid (show pRel s = (match prG [] xs with | none => none | some rows => finR (a, rows) s) by rw [HE.out, if_neg hz, hxs])
        clear hz HE
        go_wp2_with fail
        refine (split_m 32 32 (by omega) (by decide)).mono ?_
        rintro e w4 ⟨vx, Fx, rfl, hx4, hSx, hFx⟩
        have hxl : xs.length ≤ p2.size + 1 := by rw [← hxs]; exact splB_length 32 p2
        have hxp : ∀ x ∈ xs, x.size ≤ p2.size := by rw [← hxs]; exact fun x hx => splB_piece hx
        rw [hxs] at hSx
        obtain ⟨Ax, cx, rfl, _, _⟩ := hSx.form
        have B74 := B7.toExt hx4
        have R4 := R3.toExt hx4
        have HX4 := Lib.hid (trans_ext hx03 hx4)
        have hz4 := size_of_ext hx4
        have h7x : ∀ b ∈ Fx, b ∉ [b7] := fun b hb h => by have := hFx b hb; rw [List.mem_singleton.1 h] at this; omega
        have HSx := Lib.hid hSx
        have H7x := Lib.hid h7x
        have HR4 := Lib.hid R4
        have HXP := Lib.hid hxp
        have HB74 := Lib.hid B74
        have h74 : b7 < w4.heap.size := B74.1
        clear hxs hxp hSx hFx h7x B7 B74 R3 R4 r3 hb1 hc1 hx03 hx4 z1 z2 z3
        go_wp2_with fail
        go_loopw [40] (fun i wr => ∃ (k : Nat) (rows : List (List Int)) (A : Option Addr) (c : Nat) (F : List Nat), i = .int .i64 k ∧ k ≤ xs.length ∧ BoxAt wr b7 #[.int .i64 a, .slice A rows.length c] ∧ SV 48 1 sRow wr (.slice A rows.length c) rows F ∧ F.Nodup ∧ (∀ b ∈ F, w4.heap.size ≤ b) ∧ Chg [b7] w4 wr ∧ rows.length ≤ k ∧ (∀ x ∈ rows, x.length ≤ 1000000000) ∧ Hid (prG rows (xs.drop k) = prG [] xs)) (fun i _ => xs.length - (intOf i).toNat)
        case atStart => exact ⟨0, [], none, 0, [], rfl, by omega, HB74.out, SV.nil, by simp, by simp, Chg.refl _ _, by simp, by simp, Lib.hid rfl⟩
        case round =>
          obtain ⟨k, rows, A, c, F, rfl, hk, hB, hS, hN, hF, hC, hrl, hrx, Hj⟩ := hrel
          have HS := Lib.hid hS
          have HN := Lib.hid hN
          have HF := Lib.hid hF
          have HC := Lib.hid hC
          have HRL := Lib.hid hrx
          have HB := Lib.hid hB
          have h7r : b7 < wr.heap.size := hB.1
          by_cases hlt : k < xs.length
          · obtain ⟨_, _, e5, _, _, rx⟩ := (HSx.out.chg hC H7x.out).view sS_v
            injection e5 with e5 _ e6
            subst e5 e6
            obtain ⟨bx, ox, rfl, hbx, hcx⟩ := rx.atS hlt
            obtain ⟨wd, hwd⟩ : ∃ x, xs[k] = x := ⟨_, rfl⟩
            have hwdp : wd.size ≤ p2.size := by rw [← hwd]; exact HXP.out _ (List.getElem_mem hlt)
            have ej := Hj.out
            rw [prG_step hlt] at ej
            rw [hwd] at ej hcx
            have HX0 := Lib.hid (hC.isExt HX4.out (by simp; omega))
            have R5 := HR4.out.chg hC (by simp; omega)
            clear hwd hS hN hF hC hrx hB rx
            by_cases h2 : wd.size < 2
            · rw [if_pos h2] at ej
              have HZ := Lib.hid (show pRel s = none by rw [HE2.out, ← ej])
              have hX := HX0.out
              obtain ⟨l5, k5, k5', f5⟩ := bx2 R5
              clear ej
              go_wp2
              refine bodyPost_ret (v := .tuple #[.agg #[.int .i64 0, .slice none 0 0], .bool false]) (by simp [results, Try.results53, go_sem, *]) rfl (relOut_none HZ.out rfl (by refine Chg.isExt (F := []) ?_ (refl_ext _) (by simp); repeat (with_reducible (first | exact Chg.refl _ _ | exact Nat.le_refl _ | exact Chg.ofExt (by assumption) | refine Chg.trans0 ?_ (by assumption) | refine Chg.extS ?_ _ | refine Chg.alloc ?_ _ | refine Chg.drew ?_ | refine Chg.setCellE ?_ ?_ _ | refine le_addk ?_ _ | refine le_ext ?_ | refine le_alloc ?_ _ | refine le_setC ?_ _ _ | refine le_drew ?_ | assumption | (refine Nat.le_of_lt ?_; omega) | omega))))
            · rw [if_neg h2] at ej
              have hes : (wd.extract 1 (wd.size - 1)).size ≤ 1000000000 := by rw [ByteArray.size_extract]; omega
              have hes2 : (wd.extract 1 (wd.size - 1)).size ≤ p2.size := by rw [ByteArray.size_extract]; omega
              have hw1 : ((wd.size : Int) - 1).toNat = wd.size - 1 := by omega
              obtain ⟨o5, ho5⟩ : ∃ o, pList (wd.extract 1 (wd.size - 1)) = o := ⟨_, rfl⟩
              have HO5 := Lib.hid ho5
              have Hin5 : Hid (∀ r, o5 = some r → r.length ≤ 1048577) := Lib.hid (fun r hr => by
                have := (pList_facts (ho5.trans hr)).1
                omega)
              rw [ho5] at ej
              clear ho5
              go_upto_region 13 with (go_at_call 131; refine (parseList_any hes).mono ?_; rintro e w5 ⟨vv5, F5, rfl, hx5, hS5, hF5⟩; rw [HO5.out] at hS5 ⊢)
              cases o5 with
              | none =>
                have HZ := Lib.hid (show pRel s = none by rw [HE2.out, ← ej])
                obtain ⟨l5, k5, k5', f5⟩ := bx2 (R5.toExt hx5)
                have hX := trans_ext HX0.out hx5
                clear ej hS5 hF5 R5
                simp only [Option.isSome_none]
                go_wp2
                refine bodyPost_ret (v := .tuple #[.agg #[.int .i64 0, .slice none 0 0], .bool false]) (by simp [results, Try.results53, go_sem, *]) rfl (relOut_none HZ.out rfl (by refine Chg.isExt (F := []) ?_ (refl_ext _) (by simp); repeat (with_reducible (first | exact Chg.refl _ _ | exact Nat.le_refl _ | exact Chg.ofExt (by assumption) | refine Chg.trans0 ?_ (by assumption) | refine Chg.extS ?_ _ | refine Chg.alloc ?_ _ | refine Chg.drew ?_ | refine Chg.setCellE ?_ ?_ _ | refine le_addk ?_ _ | refine le_ext ?_ | refine le_alloc ?_ _ | refine le_setC ?_ _ _ | refine le_drew ?_ | assumption | (refine Nat.le_of_lt ?_; omega) | omega))))
              | some r =>
                have hr6 := Hin5.out r rfl
                simp only [Option.getD_some, Option.isSome_some] at hS5 ej ⊢
                have HEJ := Lib.hid ej
                obtain ⟨Av, cv, rfl, _, _⟩ := hS5.form
                have B5 := HB.out.toExt hx5
                have S5 := HS.out.toExt hx5
                have C5 : Chg [b7] w4 w5 := HC.out.trans0 hx5
                have hz5 := size_of_ext hx5
                have hzc := HC.out.size
                have h7nF : b7 ∉ F := fun h => by have := HF.out b7 h; omega
                have hNN := nodup_more HN.out hS5.nodup HS.out.lt hF5
                have hal2 : rows.length + 1 ≤ 2000000000 := by omega
                obtain ⟨l5, k5, k5', f5⟩ := bx2 B5
                have HF5 := Lib.hid hF5
                have HC5 := Lib.hid C5
                have HS5 := Lib.hid hS5
                clear ej hF5 C5 R5 hS5
                go_wp2_with (at_builtin; refine wpList_appN (E := sRow) (d := r) (G := F5) rfl _ _ _ rfl tIIr rfl rfl rfl (by simp) ⟨_, rfl, HS5.out⟩ rfl (by simp [Value.oneCell']) S5 hNN hal2 (by omega) ?_; intro v6 w6 F6 hS6 hC6 hN6 hF6; obtain ⟨A6, c6, rfl, _, _⟩ := hS6.form; have B6 := B5.chg hC6 h7nF; obtain ⟨l6, k6, k6', f6⟩ := bx2 B6)
                have hF6n : ∀ b ∈ F6, w4.heap.size ≤ b := fun b hb => by
                  rcases hF6 b hb with h | h | h
                  · exact HF.out b h
                  · have := HF5.out b h; omega
                  · omega
                have hCa := (HC5.out.trans hC6 (fun x hx => .inr (HF.out x hx))).setCell (p := ⟨b7, 1, none⟩) (.inl (by simp)) (.slice A6 (rows ++ [r]).length c6)
                have hSf := hS6.chg ((Chg.refl [b7] w6).setCell (p := ⟨b7, 1, none⟩) (.inl (by simp)) (.slice A6 (rows ++ [r]).length c6)) (fun b hb h => by have := hF6n b hb; rw [List.mem_singleton.1 h] at this; omega)
                have hBf := B6.setP1 (v' := .slice A6 (rows ++ [r]).length c6)
                have HRf : ∀ x ∈ rows ++ [r], x.length ≤ 1000000000 := fun x hx => by
                  rcases List.mem_append.1 hx with h | h
                  · exact HRL.out x h
                  · rw [List.mem_singleton.1 h]; omega
                rw [show rows.length + 1 = (rows ++ [r]).length by simp]
                exact ⟨⟨k + 1, rows ++ [r], A6, c6, F6, by go_num, by omega, hBf, hSf, hN6, hF6n, hCa, by simp; omega, HRf, Lib.hid HEJ.out⟩, by simp [intOf]; omega⟩
          · have ej := Hj.out
            rw [prG_end hlt] at ej
            have HE3 := Lib.hid (show pRel s = finR (a, rows) s by rw [HE2.out, ← ej])
            have HXr := Lib.hid (hC.isExt HX4.out (by simp; omega))
            have HR5 := Lib.hid (HR4.out.chg hC (by simp; omega))
            have HRN : Hid (rows.length ≤ 1000000000) := Lib.hid (by omega)
            have hz4w := size_of_ext HX4.out
            have HFN : Hid (∀ b ∈ F, w.heap.size < b) := Lib.hid (fun b hb => by have := HF.out b hb; omega)
            clear ej hS hN hF hC hrx hB
            have hq : sRel wr [.int .i64 a, .slice A rows.length c] (a, rows) F := sRel_mk ⟨_, rfl, HS.out⟩
            have HQ := Lib.hid hq
            have HV := Lib.hid (vII_get (vRel_get (sRel_v _ _ _ hq)).2).2
            obtain ⟨l7, k7, k7', f7⟩ := bx2 HB.out
            obtain ⟨l5, k5, k5', f5⟩ := bx2 HR5.out
            clear hq
            obtain ⟨t, ht⟩ : ∃ t, fmtR (a, rows) = t := ⟨_, rfl⟩
            have HT := Lib.hid ht
            have hs0 : s.size ≠ 0 := by omega
            by_cases hts : t = s
            · have q8 := str_bnet hts
              have q9 := str_beqt hts
              have HE4 := Lib.hid (show pRel s = some (a, rows) by rw [HE3.out]; unfold finR; rw [if_pos ⟨ht.trans hts, hs0⟩])
              clear ht hts
              go_wp2_with (go_at_call 54; refine (FormatRelation_w HRN.out HRL.out HV.out).mono ?_; rintro e w8 ⟨rfl, hx8⟩; rw [HT.out]; obtain ⟨l8, k8, k8', f8⟩ := bx2 (HB.out.toExt hx8); obtain ⟨l9, k9, k9', f9⟩ := bx2 (HR5.out.toExt hx8))
              have hX := HXr.out
              have hQ8 : sRel w8 [.int .i64 a, .slice A rows.length c] (a, rows) F := OD.toExt HQ.out hx8
              refine bodyPost_ret (v := .tuple #[.agg #[.int .i64 a, .slice A rows.length c], .bool true]) (by simp [results, Try.results53, go_sem, *]) rfl ⟨_, _, F, by rw [HE4.out]; rfl, (by refine Chg.isExt (F := []) ?_ (refl_ext _) (by simp); repeat (with_reducible (first | exact Chg.refl _ _ | exact Nat.le_refl _ | exact Chg.ofExt (by assumption) | refine Chg.trans0 ?_ (by assumption) | refine Chg.extS ?_ _ | refine Chg.alloc ?_ _ | refine Chg.drew ?_ | refine Chg.setCellE ?_ ?_ _ | refine le_addk ?_ _ | refine le_ext ?_ | refine le_alloc ?_ _ | refine le_setC ?_ _ _ | refine le_drew ?_ | assumption | (refine Nat.le_of_lt ?_; omega) | omega))), by rw [HE4.out]; exact OD.chg (G := [w.heap.size]) hQ8 (by repeat (with_reducible (first | exact Chg.refl _ _ | refine Chg.trans0 ?_ (by assumption) | refine Chg.extS ?_ _ | refine Chg.alloc ?_ _ | refine Chg.drew ?_ | refine Chg.setCell ?_ (.inl (by simp)) _))) (fun b hb h => by have := HFN.out b hb; rw [List.mem_singleton.1 h] at this; omega), HN.out, fun b hb => Nat.le_of_lt (HFN.out b hb)⟩
            · have q8 := str_bnef hts
              have q9 := str_beqf hts
              have HZ := Lib.hid (show pRel s = none by rw [HE3.out]; unfold finR; rw [if_neg (fun h => hts (ht.symm.trans h.1))])
              clear ht hts
              go_wp2_with (go_at_call 54; refine (FormatRelation_w HRN.out HRL.out HV.out).mono ?_; rintro e w8 ⟨rfl, hx8⟩; rw [HT.out]; obtain ⟨l8, k8, k8', f8⟩ := bx2 (HB.out.toExt hx8); obtain ⟨l9, k9, k9', f9⟩ := bx2 (HR5.out.toExt hx8))
              have hX := HXr.out
              refine bodyPost_ret (v := .tuple #[.agg #[.int .i64 0, .slice none 0 0], .bool false]) (by simp [results, Try.results53, go_sem, *]) rfl (relOut_none HZ.out rfl (by refine Chg.isExt (F := []) ?_ (refl_ext _) (by simp); repeat (with_reducible (first | exact Chg.refl _ _ | exact Nat.le_refl _ | exact Chg.ofExt (by assumption) | refine Chg.trans0 ?_ (by assumption) | refine Chg.extS ?_ _ | refine Chg.alloc ?_ _ | refine Chg.drew ?_ | refine Chg.setCellE ?_ ?_ _ | refine le_addk ?_ _ | refine le_ext ?_ | refine le_alloc ?_ _ | refine le_setC ?_ _ _ | refine le_drew ?_ | assumption | (refine Nat.le_of_lt ?_; omega) | omega))))
    · have q1 : ((ws.length : Int) != 2) = true := by rw [bne_iff_ne]; omega
      have HZ := Lib.hid (show pRel s = none by
        unfold pRel
        rw [HW.out, HP.out, ho]
        simp only
        rw [if_neg hl])
      simp only [Option.getD_some, Option.isSome_some]
      clear ho hl
      go_wp2
      refine bodyPost_ret (v := .tuple #[.agg #[.int .i64 0, .slice none 0 0], .bool false]) (by simp [results, Try.results53, go_sem, *]) rfl (relOut_none HZ.out rfl (by refine Chg.isExt (F := []) ?_ (refl_ext _) (by simp); repeat (with_reducible (first | exact Chg.refl _ _ | exact Nat.le_refl _ | exact Chg.ofExt (by assumption) | refine Chg.trans0 ?_ (by assumption) | refine Chg.extS ?_ _ | refine Chg.alloc ?_ _ | refine Chg.drew ?_ | refine Chg.setCellE ?_ ?_ _ | refine le_addk ?_ _ | refine le_ext ?_ | refine le_alloc ?_ _ | refine le_setC ?_ _ _ | refine le_drew ?_ | assumption | (refine Nat.le_of_lt ?_; omega) | omega))))
end Go.Proofs.Ytfigcfajkilhiaa

/- Numbers read from text: the reference's way. -/
namespace Go.Proofs.Ytfigcfajkilhiaa
open Go.RowKit
theorem dgL_step {s : ByteArray} {n : Int} {k i : Nat} (h : i < s.size) (h11 : i < 11) (hd : isD s[i] = true) : dgG n k (((bl s).take 11).drop i) = dgG (n * 10 + ((s[i].toNat : Int) - 48)) (k + 1) (((bl s).take 11).drop (i + 1)) := by
  have hl : i < ((bl s).take 11).length := by rw [List.length_take, bl_length]; omega
  have e : ((bl s).take 11)[i] = s[i] := by rw [List.getElem_take]; rfl
  rw [dgG_step hl (by rw [e]; exact hd), e]
theorem dgL_skip {s : ByteArray} {n : Int} {k i : Nat} (h : i < s.size) (h11 : i < 11) (hd : ¬ isD s[i] = true) : dgG n k (((bl s).take 11).drop i) = dgG n k (((bl s).take 11).drop (i + 1)) := by
  have hl : i < ((bl s).take 11).length := by rw [List.length_take, bl_length]; omega
  have e : ((bl s).take 11)[i] = s[i] := by rw [List.getElem_take]; rfl
  rw [dgG_skip hl (by rw [e]; simpa using hd)]
theorem dgL_end {s : ByteArray} {n : Int} {k i : Nat} (h : ¬ (i < s.size ∧ i < 11)) : dgG n k (((bl s).take 11).drop i) = (n, k) := by
  rw [List.drop_eq_nil_of_le (by rw [List.length_take, bl_length]; omega), dgG]
theorem pw_le {n : Int} {k : Nat} (h : n < 10 ^ k) (hk : k ≤ 11) : n ≤ 100000000000 := by
  have h5 : (10 : Nat) ^ k ≤ 10 ^ 11 := Nat.pow_le_pow_right (by omega) hk
  have h6 : ((10 ^ k : Nat) : Int) ≤ ((10 ^ 11 : Nat) : Int) := by exact_mod_cast h5
  simp only [Int.natCast_pow] at h6
  have h7 : (((10 : Nat) : Int)) = 10 := rfl
  rw [h7] at h6
  omega
theorem pw_stepS {n d : Int} {k : Nat} (h : n < 10 ^ k) (hd : d ≤ 9) : n * 10 + d < 10 ^ (k + 1) := by
  have : (10 : Int) ^ (k + 1) = 10 ^ k * 10 := Int.pow_succ 10 k
  omega
theorem bl_head0 {s : ByteArray} (h : 0 < s.size) : (bl s).head? = some s[0] := by
  rw [List.head?_eq_getElem?, List.getElem?_eq_getElem (by rw [bl_length]; exact h), bl_get s h]
set_option maxHeartbeats 4000000 in
theorem specParseInt_any {s : ByteArray} {w : World} (hs : s.size ≤ 1000000000) : Calls Try.prog 139 #[.string s] w (PiRes s w) := by
  have HQ := Lib.hid (pIs_eq s)
  obtain ⟨R, hR⟩ : ∃ R, dgG 0 0 ((bl s).take 11) = R := ⟨_, rfl⟩
  have HRR := Lib.hid hR
  rw [hR] at HQ
  clear hR
  go_enter Try.func139, Try.ntmps139
  go_wp2
  go_loop [4, 5, 6] (fun n k i => ∃ (j : Nat) (m : Int) (q : Nat), i = .int .i64 j ∧ n = .int .i64 m ∧ k = .int .i64 q ∧ j ≤ s.size ∧ j ≤ 11 ∧ q ≤ j ∧ 0 ≤ m ∧ Hid (m < 10 ^ q) ∧ Hid (dgG m q (((bl s).take 11).drop j) = R)) (fun _ _ i => 11 - (intOf i).toNat)
  case atStart => exact ⟨0, 0, 0, rfl, rfl, rfl, by omega, by omega, by omega, by omega, Lib.hid (by decide), Lib.hid (by simpa using HRR.out)⟩
  case round =>
    obtain ⟨j, m, q, rfl, rfl, rfl, hj, hj11, hq, hm0, Hm, Hj⟩ := hrel
    have hm2 := pw_le Hm.out (by omega)
    by_cases hc : j < s.size ∧ j < 11
    · obtain ⟨hlt, h11⟩ := hc
      by_cases hd : isD s[j] = true
      · obtain ⟨q1, q2⟩ := isDt hd
        have e := Hj.out
        rw [dgL_step hlt h11 hd] at e
        have He := Lib.hid e
        have Hm3 := Lib.hid (pw_stepS (d := (s[j].toNat : Int) - 48) Hm.out (by omega))
        clear e hd
        go_wp2
        exact ⟨⟨j + 1, m * 10 + ((s[j].toNat : Int) - 48), q + 1, by go_num, rfl, by go_num, by omega, by omega, by omega, by omega, Hm3, He⟩, by simp [intOf]; omega⟩
      · have e := Hj.out
        rw [dgL_skip hlt h11 hd] at e
        have He := Lib.hid e
        rcases isDf hd with q' | q'
        all_goals
          clear e hd
          go_wp2
          exact ⟨⟨j + 1, m, q, by go_num, rfl, rfl, by omega, by omega, by omega, hm0, Hm, He⟩, by simp [intOf]; omega⟩
    · have e := Hj.out
      rw [dgL_end hc] at e
      have He := Lib.hid e.symm
      by_cases hneg : ∃ h : 0 < s.size, s[0] = 45
      · obtain ⟨hp, hc45⟩ := hneg
        have hq45 : ((s[0].toNat : Int) == 45) = true := by rw [hc45]; rfl
        have HZ := Lib.hid (show pIz s = -m by
          unfold pIz
          rw [HRR.out, ← e, show (bl s).head? = some 45 by rw [bl_head0 hp, hc45]]
          rfl)
        clear e hc45
        by_cases h1 : j < s.size
        · have h2 : ¬ j < 11 := fun h => hc ⟨h1, h⟩
          clear hc
          obtain ⟨t, ht⟩ : ∃ t, decI (-m) = t := ⟨_, rfl⟩
          have HT := Lib.hid ht
          by_cases hbig : 9 < q
          · have HR := Lib.hid (show pInt s = none by rw [HQ.out, He.out, if_neg (fun h => by have := h.1; dsimp only at this; omega)])
            clear ht
            go_wp2_with fail
            all_goals go_ret2
            all_goals exact piNone HR.out rfl (by refine Chg.isExt (F := []) ?_ (refl_ext _) (by simp); repeat (with_reducible (first | exact Chg.refl _ _ | exact Nat.le_refl _ | exact Chg.ofExt (by assumption) | refine Chg.trans0 ?_ (by assumption) | refine Chg.extS ?_ _ | refine Chg.alloc ?_ _ | refine Chg.drew ?_ | refine Chg.setCellE ?_ ?_ _ | refine le_addk ?_ _ | refine le_ext ?_ | refine le_alloc ?_ _ | refine le_setC ?_ _ _ | refine le_drew ?_ | assumption | (refine Nat.le_of_lt ?_; omega) | omega)))
          · by_cases hlen : 10 < s.size
            · have HR := Lib.hid (show pInt s = none by rw [HQ.out, if_neg (fun h => by have := h.2.1; omega)])
              clear ht
              go_wp2_with fail
              all_goals go_ret2
              all_goals exact piNone HR.out rfl (by refine Chg.isExt (F := []) ?_ (refl_ext _) (by simp); repeat (with_reducible (first | exact Chg.refl _ _ | exact Nat.le_refl _ | exact Chg.ofExt (by assumption) | refine Chg.trans0 ?_ (by assumption) | refine Chg.extS ?_ _ | refine Chg.alloc ?_ _ | refine Chg.drew ?_ | refine Chg.setCellE ?_ ?_ _ | refine le_addk ?_ _ | refine le_ext ?_ | refine le_alloc ?_ _ | refine le_setC ?_ _ _ | refine le_drew ?_ | assumption | (refine Nat.le_of_lt ?_; omega) | omega)))
            · by_cases hts : t = s
              · have HR := Lib.hid (show pInt s = some (-m) by rw [HQ.out, He.out, HZ.out, if_pos ⟨by dsimp only; omega, by omega, ht.trans hts⟩])
                have q1 := str_beqt hts
                have q2 := str_bnet hts
                clear hts ht
                go_wp2_with (go_at_call 169; refine (specFormatInt_any (by omega) (by omega)).mono ?_; rintro e w2 ⟨rfl, hx2⟩; rw [HT.out])
                all_goals go_ret2
                all_goals exact piSome HR.out rfl (by refine Chg.isExt (F := []) ?_ (refl_ext _) (by simp); repeat (with_reducible (first | exact Chg.refl _ _ | exact Nat.le_refl _ | exact Chg.ofExt (by assumption) | refine Chg.trans0 ?_ (by assumption) | refine Chg.extS ?_ _ | refine Chg.alloc ?_ _ | refine Chg.drew ?_ | refine Chg.setCellE ?_ ?_ _ | refine le_addk ?_ _ | refine le_ext ?_ | refine le_alloc ?_ _ | refine le_setC ?_ _ _ | refine le_drew ?_ | assumption | (refine Nat.le_of_lt ?_; omega) | omega)))
              · have HR := Lib.hid (show pInt s = none by rw [HQ.out, HZ.out, if_neg (fun h => hts (ht.symm.trans h.2.2))])
                have q1 := str_beqf hts
                have q2 := str_bnef hts
                clear hts ht
                go_wp2_with (go_at_call 169; refine (specFormatInt_any (by omega) (by omega)).mono ?_; rintro e w2 ⟨rfl, hx2⟩; rw [HT.out])
                all_goals go_ret2
                all_goals exact piNone HR.out rfl (by refine Chg.isExt (F := []) ?_ (refl_ext _) (by simp); repeat (with_reducible (first | exact Chg.refl _ _ | exact Nat.le_refl _ | exact Chg.ofExt (by assumption) | refine Chg.trans0 ?_ (by assumption) | refine Chg.extS ?_ _ | refine Chg.alloc ?_ _ | refine Chg.drew ?_ | refine Chg.setCellE ?_ ?_ _ | refine le_addk ?_ _ | refine le_ext ?_ | refine le_alloc ?_ _ | refine le_setC ?_ _ _ | refine le_drew ?_ | assumption | (refine Nat.le_of_lt ?_; omega) | omega)))
        · clear hc
          obtain ⟨t, ht⟩ : ∃ t, decI (-m) = t := ⟨_, rfl⟩
          have HT := Lib.hid ht
          by_cases hbig : 9 < q
          · have HR := Lib.hid (show pInt s = none by rw [HQ.out, He.out, if_neg (fun h => by have := h.1; dsimp only at this; omega)])
            clear ht
            go_wp2_with fail
            all_goals go_ret2
            all_goals exact piNone HR.out rfl (by refine Chg.isExt (F := []) ?_ (refl_ext _) (by simp); repeat (with_reducible (first | exact Chg.refl _ _ | exact Nat.le_refl _ | exact Chg.ofExt (by assumption) | refine Chg.trans0 ?_ (by assumption) | refine Chg.extS ?_ _ | refine Chg.alloc ?_ _ | refine Chg.drew ?_ | refine Chg.setCellE ?_ ?_ _ | refine le_addk ?_ _ | refine le_ext ?_ | refine le_alloc ?_ _ | refine le_setC ?_ _ _ | refine le_drew ?_ | assumption | (refine Nat.le_of_lt ?_; omega) | omega)))
          · by_cases hlen : 10 < s.size
            · have HR := Lib.hid (show pInt s = none by rw [HQ.out, if_neg (fun h => by have := h.2.1; omega)])
              clear ht
              go_wp2_with fail
              all_goals go_ret2
              all_goals exact piNone HR.out rfl (by refine Chg.isExt (F := []) ?_ (refl_ext _) (by simp); repeat (with_reducible (first | exact Chg.refl _ _ | exact Nat.le_refl _ | exact Chg.ofExt (by assumption) | refine Chg.trans0 ?_ (by assumption) | refine Chg.extS ?_ _ | refine Chg.alloc ?_ _ | refine Chg.drew ?_ | refine Chg.setCellE ?_ ?_ _ | refine le_addk ?_ _ | refine le_ext ?_ | refine le_alloc ?_ _ | refine le_setC ?_ _ _ | refine le_drew ?_ | assumption | (refine Nat.le_of_lt ?_; omega) | omega)))
            · by_cases hts : t = s
              · have HR := Lib.hid (show pInt s = some (-m) by rw [HQ.out, He.out, HZ.out, if_pos ⟨by dsimp only; omega, by omega, ht.trans hts⟩])
                have q1 := str_beqt hts
                have q2 := str_bnet hts
                clear hts ht
                go_wp2_with (go_at_call 169; refine (specFormatInt_any (by omega) (by omega)).mono ?_; rintro e w2 ⟨rfl, hx2⟩; rw [HT.out])
                all_goals go_ret2
                all_goals exact piSome HR.out rfl (by refine Chg.isExt (F := []) ?_ (refl_ext _) (by simp); repeat (with_reducible (first | exact Chg.refl _ _ | exact Nat.le_refl _ | exact Chg.ofExt (by assumption) | refine Chg.trans0 ?_ (by assumption) | refine Chg.extS ?_ _ | refine Chg.alloc ?_ _ | refine Chg.drew ?_ | refine Chg.setCellE ?_ ?_ _ | refine le_addk ?_ _ | refine le_ext ?_ | refine le_alloc ?_ _ | refine le_setC ?_ _ _ | refine le_drew ?_ | assumption | (refine Nat.le_of_lt ?_; omega) | omega)))
              · have HR := Lib.hid (show pInt s = none by rw [HQ.out, HZ.out, if_neg (fun h => hts (ht.symm.trans h.2.2))])
                have q1 := str_beqf hts
                have q2 := str_bnef hts
                clear hts ht
                go_wp2_with (go_at_call 169; refine (specFormatInt_any (by omega) (by omega)).mono ?_; rintro e w2 ⟨rfl, hx2⟩; rw [HT.out])
                all_goals go_ret2
                all_goals exact piNone HR.out rfl (by refine Chg.isExt (F := []) ?_ (refl_ext _) (by simp); repeat (with_reducible (first | exact Chg.refl _ _ | exact Nat.le_refl _ | exact Chg.ofExt (by assumption) | refine Chg.trans0 ?_ (by assumption) | refine Chg.extS ?_ _ | refine Chg.alloc ?_ _ | refine Chg.drew ?_ | refine Chg.setCellE ?_ ?_ _ | refine le_addk ?_ _ | refine le_ext ?_ | refine le_alloc ?_ _ | refine le_setC ?_ _ _ | refine le_drew ?_ | assumption | (refine Nat.le_of_lt ?_; omega) | omega)))
      · have HZ := Lib.hid (show pIz s = m by
          unfold pIz
          rw [HRR.out, ← e]
          have : ¬ (bl s).head? = some 45 := fun h => by
            by_cases hp : 0 < s.size
            · rw [bl_head0 hp] at h
              exact hneg ⟨hp, Option.some.inj h⟩
            · rw [size_zero (by omega)] at h
              cases h
          rw [decide_eq_false this]
          rfl)
        by_cases hp : 0 < s.size
        · have hc45 : ((s[0].toNat : Int) == 45) = false := by
            rw [beq_eq_false_iff_ne]
            intro e
            exact hneg ⟨hp, UInt8.toNat_inj.1 (by simpa using (by omega : s[0].toNat = 45))⟩
          clear e hneg
          by_cases h1 : j < s.size
          · have h2 : ¬ j < 11 := fun h => hc ⟨h1, h⟩
            clear hc
            obtain ⟨t, ht⟩ : ∃ t, decI (m) = t := ⟨_, rfl⟩
            have HT := Lib.hid ht
            by_cases hbig : 9 < q
            · have HR := Lib.hid (show pInt s = none by rw [HQ.out, He.out, if_neg (fun h => by have := h.1; dsimp only at this; omega)])
              clear ht
              go_wp2_with fail
              all_goals go_ret2
              all_goals exact piNone HR.out rfl (by refine Chg.isExt (F := []) ?_ (refl_ext _) (by simp); repeat (with_reducible (first | exact Chg.refl _ _ | exact Nat.le_refl _ | exact Chg.ofExt (by assumption) | refine Chg.trans0 ?_ (by assumption) | refine Chg.extS ?_ _ | refine Chg.alloc ?_ _ | refine Chg.drew ?_ | refine Chg.setCellE ?_ ?_ _ | refine le_addk ?_ _ | refine le_ext ?_ | refine le_alloc ?_ _ | refine le_setC ?_ _ _ | refine le_drew ?_ | assumption | (refine Nat.le_of_lt ?_; omega) | omega)))
            · by_cases hlen : 10 < s.size
              · have HR := Lib.hid (show pInt s = none by rw [HQ.out, if_neg (fun h => by have := h.2.1; omega)])
                clear ht
                go_wp2_with fail
                all_goals go_ret2
                all_goals exact piNone HR.out rfl (by refine Chg.isExt (F := []) ?_ (refl_ext _) (by simp); repeat (with_reducible (first | exact Chg.refl _ _ | exact Nat.le_refl _ | exact Chg.ofExt (by assumption) | refine Chg.trans0 ?_ (by assumption) | refine Chg.extS ?_ _ | refine Chg.alloc ?_ _ | refine Chg.drew ?_ | refine Chg.setCellE ?_ ?_ _ | refine le_addk ?_ _ | refine le_ext ?_ | refine le_alloc ?_ _ | refine le_setC ?_ _ _ | refine le_drew ?_ | assumption | (refine Nat.le_of_lt ?_; omega) | omega)))
              · by_cases hts : t = s
                · have HR := Lib.hid (show pInt s = some (m) by rw [HQ.out, He.out, HZ.out, if_pos ⟨by dsimp only; omega, by omega, ht.trans hts⟩])
                  have q1 := str_beqt hts
                  have q2 := str_bnet hts
                  clear hts ht
                  go_wp2_with (go_at_call 169; refine (specFormatInt_any (by omega) (by omega)).mono ?_; rintro e w2 ⟨rfl, hx2⟩; rw [HT.out])
                  all_goals go_ret2
                  all_goals exact piSome HR.out rfl (by refine Chg.isExt (F := []) ?_ (refl_ext _) (by simp); repeat (with_reducible (first | exact Chg.refl _ _ | exact Nat.le_refl _ | exact Chg.ofExt (by assumption) | refine Chg.trans0 ?_ (by assumption) | refine Chg.extS ?_ _ | refine Chg.alloc ?_ _ | refine Chg.drew ?_ | refine Chg.setCellE ?_ ?_ _ | refine le_addk ?_ _ | refine le_ext ?_ | refine le_alloc ?_ _ | refine le_setC ?_ _ _ | refine le_drew ?_ | assumption | (refine Nat.le_of_lt ?_; omega) | omega)))
                · have HR := Lib.hid (show pInt s = none by rw [HQ.out, HZ.out, if_neg (fun h => hts (ht.symm.trans h.2.2))])
                  have q1 := str_beqf hts
                  have q2 := str_bnef hts
                  clear hts ht
                  go_wp2_with (go_at_call 169; refine (specFormatInt_any (by omega) (by omega)).mono ?_; rintro e w2 ⟨rfl, hx2⟩; rw [HT.out])
                  all_goals go_ret2
                  all_goals exact piNone HR.out rfl (by refine Chg.isExt (F := []) ?_ (refl_ext _) (by simp); repeat (with_reducible (first | exact Chg.refl _ _ | exact Nat.le_refl _ | exact Chg.ofExt (by assumption) | refine Chg.trans0 ?_ (by assumption) | refine Chg.extS ?_ _ | refine Chg.alloc ?_ _ | refine Chg.drew ?_ | refine Chg.setCellE ?_ ?_ _ | refine le_addk ?_ _ | refine le_ext ?_ | refine le_alloc ?_ _ | refine le_setC ?_ _ _ | refine le_drew ?_ | assumption | (refine Nat.le_of_lt ?_; omega) | omega)))
          · clear hc
            obtain ⟨t, ht⟩ : ∃ t, decI (m) = t := ⟨_, rfl⟩
            have HT := Lib.hid ht
            by_cases hbig : 9 < q
            · have HR := Lib.hid (show pInt s = none by rw [HQ.out, He.out, if_neg (fun h => by have := h.1; dsimp only at this; omega)])
              clear ht
              go_wp2_with fail
              all_goals go_ret2
              all_goals exact piNone HR.out rfl (by refine Chg.isExt (F := []) ?_ (refl_ext _) (by simp); repeat (with_reducible (first | exact Chg.refl _ _ | exact Nat.le_refl _ | exact Chg.ofExt (by assumption) | refine Chg.trans0 ?_ (by assumption) | refine Chg.extS ?_ _ | refine Chg.alloc ?_ _ | refine Chg.drew ?_ | refine Chg.setCellE ?_ ?_ _ | refine le_addk ?_ _ | refine le_ext ?_ | refine le_alloc ?_ _ | refine le_setC ?_ _ _ | refine le_drew ?_ | assumption | (refine Nat.le_of_lt ?_; omega) | omega)))
            · by_cases hlen : 10 < s.size
              · have HR := Lib.hid (show pInt s = none by rw [HQ.out, if_neg (fun h => by have := h.2.1; omega)])
                clear ht
                go_wp2_with fail
                all_goals go_ret2
                all_goals exact piNone HR.out rfl (by refine Chg.isExt (F := []) ?_ (refl_ext _) (by simp); repeat (with_reducible (first | exact Chg.refl _ _ | exact Nat.le_refl _ | exact Chg.ofExt (by assumption) | refine Chg.trans0 ?_ (by assumption) | refine Chg.extS ?_ _ | refine Chg.alloc ?_ _ | refine Chg.drew ?_ | refine Chg.setCellE ?_ ?_ _ | refine le_addk ?_ _ | refine le_ext ?_ | refine le_alloc ?_ _ | refine le_setC ?_ _ _ | refine le_drew ?_ | assumption | (refine Nat.le_of_lt ?_; omega) | omega)))
              · by_cases hts : t = s
                · have HR := Lib.hid (show pInt s = some (m) by rw [HQ.out, He.out, HZ.out, if_pos ⟨by dsimp only; omega, by omega, ht.trans hts⟩])
                  have q1 := str_beqt hts
                  have q2 := str_bnet hts
                  clear hts ht
                  go_wp2_with (go_at_call 169; refine (specFormatInt_any (by omega) (by omega)).mono ?_; rintro e w2 ⟨rfl, hx2⟩; rw [HT.out])
                  all_goals go_ret2
                  all_goals exact piSome HR.out rfl (by refine Chg.isExt (F := []) ?_ (refl_ext _) (by simp); repeat (with_reducible (first | exact Chg.refl _ _ | exact Nat.le_refl _ | exact Chg.ofExt (by assumption) | refine Chg.trans0 ?_ (by assumption) | refine Chg.extS ?_ _ | refine Chg.alloc ?_ _ | refine Chg.drew ?_ | refine Chg.setCellE ?_ ?_ _ | refine le_addk ?_ _ | refine le_ext ?_ | refine le_alloc ?_ _ | refine le_setC ?_ _ _ | refine le_drew ?_ | assumption | (refine Nat.le_of_lt ?_; omega) | omega)))
                · have HR := Lib.hid (show pInt s = none by rw [HQ.out, HZ.out, if_neg (fun h => hts (ht.symm.trans h.2.2))])
                  have q1 := str_beqf hts
                  have q2 := str_bnef hts
                  clear hts ht
                  go_wp2_with (go_at_call 169; refine (specFormatInt_any (by omega) (by omega)).mono ?_; rintro e w2 ⟨rfl, hx2⟩; rw [HT.out])
                  all_goals go_ret2
                  all_goals exact piNone HR.out rfl (by refine Chg.isExt (F := []) ?_ (refl_ext _) (by simp); repeat (with_reducible (first | exact Chg.refl _ _ | exact Nat.le_refl _ | exact Chg.ofExt (by assumption) | refine Chg.trans0 ?_ (by assumption) | refine Chg.extS ?_ _ | refine Chg.alloc ?_ _ | refine Chg.drew ?_ | refine Chg.setCellE ?_ ?_ _ | refine le_addk ?_ _ | refine le_ext ?_ | refine le_alloc ?_ _ | refine le_setC ?_ _ _ | refine le_drew ?_ | assumption | (refine Nat.le_of_lt ?_; omega) | omega)))
        · have h1 : ¬ j < s.size := by omega
          clear e hneg hc
          obtain ⟨t, ht⟩ : ∃ t, decI (m) = t := ⟨_, rfl⟩
          have HT := Lib.hid ht
          by_cases hbig : 9 < q
          · have HR := Lib.hid (show pInt s = none by rw [HQ.out, He.out, if_neg (fun h => by have := h.1; dsimp only at this; omega)])
            clear ht
            go_wp2_with fail
            all_goals go_ret2
            all_goals exact piNone HR.out rfl (by refine Chg.isExt (F := []) ?_ (refl_ext _) (by simp); repeat (with_reducible (first | exact Chg.refl _ _ | exact Nat.le_refl _ | exact Chg.ofExt (by assumption) | refine Chg.trans0 ?_ (by assumption) | refine Chg.extS ?_ _ | refine Chg.alloc ?_ _ | refine Chg.drew ?_ | refine Chg.setCellE ?_ ?_ _ | refine le_addk ?_ _ | refine le_ext ?_ | refine le_alloc ?_ _ | refine le_setC ?_ _ _ | refine le_drew ?_ | assumption | (refine Nat.le_of_lt ?_; omega) | omega)))
          · by_cases hlen : 10 < s.size
            · have HR := Lib.hid (show pInt s = none by rw [HQ.out, if_neg (fun h => by have := h.2.1; omega)])
              clear ht
              go_wp2_with fail
              all_goals go_ret2
              all_goals exact piNone HR.out rfl (by refine Chg.isExt (F := []) ?_ (refl_ext _) (by simp); repeat (with_reducible (first | exact Chg.refl _ _ | exact Nat.le_refl _ | exact Chg.ofExt (by assumption) | refine Chg.trans0 ?_ (by assumption) | refine Chg.extS ?_ _ | refine Chg.alloc ?_ _ | refine Chg.drew ?_ | refine Chg.setCellE ?_ ?_ _ | refine le_addk ?_ _ | refine le_ext ?_ | refine le_alloc ?_ _ | refine le_setC ?_ _ _ | refine le_drew ?_ | assumption | (refine Nat.le_of_lt ?_; omega) | omega)))
            · by_cases hts : t = s
              · have HR := Lib.hid (show pInt s = some (m) by rw [HQ.out, He.out, HZ.out, if_pos ⟨by dsimp only; omega, by omega, ht.trans hts⟩])
                have q1 := str_beqt hts
                have q2 := str_bnet hts
                clear hts ht
                go_wp2_with (go_at_call 169; refine (specFormatInt_any (by omega) (by omega)).mono ?_; rintro e w2 ⟨rfl, hx2⟩; rw [HT.out])
                all_goals go_ret2
                all_goals exact piSome HR.out rfl (by refine Chg.isExt (F := []) ?_ (refl_ext _) (by simp); repeat (with_reducible (first | exact Chg.refl _ _ | exact Nat.le_refl _ | exact Chg.ofExt (by assumption) | refine Chg.trans0 ?_ (by assumption) | refine Chg.extS ?_ _ | refine Chg.alloc ?_ _ | refine Chg.drew ?_ | refine Chg.setCellE ?_ ?_ _ | refine le_addk ?_ _ | refine le_ext ?_ | refine le_alloc ?_ _ | refine le_setC ?_ _ _ | refine le_drew ?_ | assumption | (refine Nat.le_of_lt ?_; omega) | omega)))
              · have HR := Lib.hid (show pInt s = none by rw [HQ.out, HZ.out, if_neg (fun h => hts (ht.symm.trans h.2.2))])
                have q1 := str_beqf hts
                have q2 := str_bnef hts
                clear hts ht
                go_wp2_with (go_at_call 169; refine (specFormatInt_any (by omega) (by omega)).mono ?_; rintro e w2 ⟨rfl, hx2⟩; rw [HT.out])
                all_goals go_ret2
                all_goals exact piNone HR.out rfl (by refine Chg.isExt (F := []) ?_ (refl_ext _) (by simp); repeat (with_reducible (first | exact Chg.refl _ _ | exact Nat.le_refl _ | exact Chg.ofExt (by assumption) | refine Chg.trans0 ?_ (by assumption) | refine Chg.extS ?_ _ | refine Chg.alloc ?_ _ | refine Chg.drew ?_ | refine Chg.setCellE ?_ ?_ _ | refine le_addk ?_ _ | refine le_ext ?_ | refine le_alloc ?_ _ | refine le_setC ?_ _ _ | refine le_drew ?_ | assumption | (refine Nat.le_of_lt ?_; omega) | omega)))
end Go.Proofs.Ytfigcfajkilhiaa

/- Relations read from text: the reference's way. -/
namespace Go.Proofs.Ytfigcfajkilhiaa
open Go.RowKit
def gInt (v : ByteArray) : Int := (pInt v).getD 0
theorem gInt_bd (v : ByteArray) : -1000000000 < gInt v ∧ gInt v < 1000000000 := pIntG_bd v
theorem rowS_len (s : ByteArray) : (rowS s).length ≤ s.size + 1 := by
  unfold rowS
  split
  · rw [List.length_map]
    refine Nat.le_trans (splB_length 44 _) ?_
    rw [ByteArray.size_extract]
    omega
  · simp
theorem mapd_step {α β : Type} {f : α → β} {xs : List α} {acc l : List β} {k : Nat} (h : k < xs.length) (e : acc ++ (xs.drop k).map f = l) : (acc ++ [f xs[k]]) ++ (xs.drop (k + 1)).map f = l := by
  rw [← e, List.drop_eq_getElem_cons h, List.map_cons, List.append_assoc, List.singleton_append]
theorem mapd_end {α β : Type} {f : α → β} {xs : List α} {acc l : List β} {k : Nat} (h : ¬ k < xs.length) (e : acc ++ (xs.drop k).map f = l) : acc = l := by
  rw [List.drop_eq_nil_of_le (by omega)] at e
  simpa using e
set_option maxRecDepth 100000 in
set_option maxHeartbeats 16000000 in
theorem specParseRelation_any {s : ByteArray} {w : World} (hs : s.size ≤ 1048576) : Calls Try.prog 56 #[.string s] w (RelOut (pRel s) w) := by
  have hpos := splB_pos 58 s
  obtain ⟨p, hp⟩ : ∃ p, (splB 58 s).getD 0 ⟨#[]⟩ = p := ⟨_, rfl⟩
  have HP := Lib.hid hp
  have hps : p.size ≤ s.size := by
    rw [← hp, show (splB 58 s).getD 0 ⟨#[]⟩ = (splB 58 s)[0] by simp [List.getD_eq_getElem?_getD, hpos]]
    exact splB_piece (List.getElem_mem hpos)
  obtain ⟨ws, hws⟩ : ∃ ws, splB 58 s = ws := ⟨_, rfl⟩
  have HW := Lib.hid hws
  have HSR := Lib.hid (show sRows s = (if ws.length = 2 ∧ (ws.getD 1 ⟨#[]⟩).size ≠ 0 then (splB 32 (ws.getD 1 ⟨#[]⟩)).map rowS else []) by unfold sRows; rw [hws])
  rw [hws] at hpos HP
  have hw58 : ws.length ≤ s.size + 1 := by rw [← hws]; exact splB_length 58 s
  obtain ⟨a, ha⟩ : ∃ a, (pInt p).getD 0 = a := ⟨_, rfl⟩
  obtain ⟨tb, htb⟩ : ∃ t, (pInt p).isSome = t := ⟨_, rfl⟩
  have hab := pIntG_bd p
  rw [ha] at hab
  have HA := Lib.hid ha
  have HTB := Lib.hid htb
  have HE := Lib.hid (show pRel s = finR (a, sRows s) s by
    rw [← pRelS_eq]
    unfold pRelS
    rw [hws, HP.out, ha])
  clear hp hws ha htb
  go_enter Try.func56, Try.ntmps56
  go_upto_region 1 with fail
  refine wp_name ?_
  intro W hW
  have xW : ∃ y, W = ext w y := by rw [hW.out]; exact (by refine Chg.isExt (F := []) ?_ (refl_ext _) (by simp); repeat (with_reducible (first | exact Chg.refl _ _ | exact Nat.le_refl _ | exact Chg.ofExt (by assumption) | refine Chg.trans0 ?_ (by assumption) | refine Chg.extS ?_ _ | refine Chg.alloc ?_ _ | refine Chg.drew ?_ | refine Chg.setCellE ?_ ?_ _ | refine le_addk ?_ _ | refine le_ext ?_ | refine le_alloc ?_ _ | refine le_setC ?_ _ _ | refine le_drew ?_ | assumption | (refine Nat.le_of_lt ?_; omega) | omega)))
  have BW0 : BoxAt W (w.heap.size) #[.int .i64 0, .slice none 0 0] := by rw [hW.out]; refine ⟨?_, fun j => ?_, fun j => ?_⟩ <;> go_simp
  obtain ⟨lW0, bW0, fW0⟩ := BW0
  have cW0_0 : W.cell? ⟨w.heap.size, 0, none⟩ = some (.int .i64 0) := bW0 0
  have cW0_1 : W.cell? ⟨w.heap.size, 1, none⟩ = some (.slice none 0 0) := bW0 1
  clear hW
  have RW : BoxAt W w.heap.size #[.int .i64 0, .slice none 0 0] := ⟨lW0, bW0, fW0⟩
  clear bW0 fW0 cW0_0 cW0_1
  go_wp2_with fail
  refine (l5Cut_m 58 58 (by omega) (by decide)).mono ?_
  rintro e w1 ⟨vw, Fw, rfl, hx1, hSw, hFw⟩
  rw [HW.out] at hSw
  obtain ⟨A1, c1, rfl, _, _, r1⟩ := hSw.view sS_v
  have hx01 := trans_ext xW hx1
  have R1 := RW.toExt hx1
  have l1w : w.heap.size < w1.heap.size := R1.1
  clear hSw hFw RW lW0 hx1 xW
  go_upto_region 3 with fail
  refine wp_name ?_
  intro W2 hW2
  have x2 : ∃ y, W2 = ext w1 y := by rw [hW2.out]; exact (by refine Chg.isExt (F := []) ?_ (refl_ext _) (by simp); repeat (with_reducible (first | exact Chg.refl _ _ | exact Nat.le_refl _ | exact Chg.ofExt (by assumption) | refine Chg.trans0 ?_ (by assumption) | refine Chg.extS ?_ _ | refine Chg.alloc ?_ _ | refine Chg.drew ?_ | refine Chg.setCellE ?_ ?_ _ | refine le_addk ?_ _ | refine le_ext ?_ | refine le_alloc ?_ _ | refine le_setC ?_ _ _ | refine le_drew ?_ | assumption | (refine Nat.le_of_lt ?_; omega) | omega)))
  have B2 : BoxAt W2 w1.heap.size #[.int .i64 0, .slice none 0 0] := by rw [hW2.out]; exact (by repeat (with_reducible (first | assumption | exact BoxAt.new _ _ _ | apply BoxAt.set2 | refine BoxAt.set2' ?_ (by omega) | apply BoxAt.setP0 | apply BoxAt.setP1 | refine BoxAt.setO ?_ (by omega) | refine BoxAt.alloc ?_ _ | refine BoxAt.drew ?_ | refine BoxAt.toExt ?_ (by assumption))))
  obtain ⟨b7, q7⟩ : ∃ b, w1.heap.size = b := ⟨_, rfl⟩
  have h71 : w1.heap.size ≤ b7 := by omega
  have hb7 : w.heap.size < b7 := by omega
  rw [q7] at B2 ⊢
  have r2 := r1.toExt x2
  have R2 := R1.toExt x2
  obtain ⟨b1, o1, rfl, hb1, hc1⟩ := r2.atS1 hpos HP.out
  clear hW2 q7 R1
  go_upto_region 4 with (go_at_call 139; refine (specParseInt_any (by omega)).mono ?_; unfold PiRes; rintro e w3 ⟨rfl, hx3⟩; rw [HA.out, HTB.out]; have B3 := B2.toExt hx3; obtain ⟨l3, k3, k3', f3⟩ := bx2 B3)
  refine wp_name ?_
  intro W4 hW4
  have B7 : BoxAt W4 b7 #[.int .i64 a, .slice none 0 0] := by rw [hW4.out]; exact B3.setP0
  have x24 : Chg [b7] W2 W4 := by rw [hW4.out]; exact (Chg.ofExt (F := [b7]) hx3).setCell (.inl (by simp)) _
  have x14 : ∃ y, W4 = ext w1 y := x24.isExt x2 (by simp; omega)
  have hx04 := trans_ext hx01 x14
  have r4 := r1.toExt x14
  have R4 := R2.chg x24 (by simp; omega)
  have hb7w : b7 < W4.heap.size := B7.1
  clear hW4 B2 B3 l3 k3 k3' f3 hb1 hc1 r1 r2 R2 x2 hx3 x24
  by_cases hl : ws.length = 2
  · have hs1 : 1 ≤ s.size := by omega
    have q1 : ((ws.length : Int) == 2) = true := by simp [hl]
    have h2w : 1 < ws.length := by omega
    obtain ⟨p2, hp2⟩ : ∃ p, ws.getD 1 ⟨#[]⟩ = p := ⟨_, rfl⟩
    have hps2 : p2.size ≤ s.size := by
      rw [← hp2, show ws.getD 1 ⟨#[]⟩ = ws[1] by simp [List.getD_eq_getElem?_getD, h2w]]
      have := splB_piece (c := 58) (s := s) (p := ws[1]) (by rw [HW.out]; exact List.getElem_mem h2w)
      exact this
    have HP2 := Lib.hid hp2
    obtain ⟨b1', o1', e1, hb1, hc1⟩ := r4.atS h2w
    injection e1 with e1
    injection e1 with e1 e2
    subst e1 e2
    rw [show ws[1] = p2 by rw [← HP2.out]; simp [List.getD_eq_getElem?_getD, h2w]] at hc1
    clear hp2
    by_cases hz : p2.size = 0
    · have HROWS := Lib.hid (show sRows s = [] by rw [HSR.out, HP2.out, if_neg (fun h => h.2 hz)])
      have z1 := isEmpty_yes hz
      have z2 : (p2.toList != (ByteArray.mk #[]).toList) = false := str_bnet (bl_inj (size_zero hz))
      have z3 : (p2.toList == (ByteArray.mk #[]).toList) = true := str_beqt (bl_inj (size_zero hz))
      clear hz hl
      go_upto_region 18 with fail
      clear z1 z2 z3 hb1 hc1 q1
      have HE3 := Lib.hid (show pRel s = finR (a, []) s by rw [HE.out]; rw [show sRows s = [] from HROWS.out])
      have HS : Hid (SV 48 1 sRow W4 (.slice none ([] : List (List Int)).length 0) [] []) := Lib.hid SV.nil
      have HB := Lib.hid B7
      have HR5 := Lib.hid R4
      have HXr := Lib.hid hx04
      have HRN : Hid (([] : List (List Int)).length ≤ 1000000000) := Lib.hid (by simp)
      have HRL : Hid (∀ x ∈ ([] : List (List Int)), x.length ≤ 1000000000) := Lib.hid (by simp)
      have HN : Hid ([] : List Nat).Nodup := Lib.hid (by simp)
      have HFN : Hid (∀ b ∈ ([] : List Nat), w.heap.size < b) := Lib.hid (by simp)
      clear B7 R4
      have hq : sRel W4 [.int .i64 a, .slice none ([] : List (List Int)).length 0] (a, ([] : List (List Int))) [] := sRel_mk ⟨_, rfl, HS.out⟩
      have HQ := Lib.hid hq
      have HV := Lib.hid (vII_get (vRel_get (sRel_v _ _ _ hq)).2).2
      obtain ⟨l7, k7, k7', f7⟩ := bx2 HB.out
      obtain ⟨l5, k5, k5', f5⟩ := bx2 HR5.out
      clear hq
      obtain ⟨t, ht⟩ : ∃ t, fmtR (a, ([] : List (List Int))) = t := ⟨_, rfl⟩
      have HT := Lib.hid ht
      by_cases hts : t = s
      · have q8 := str_bnet hts
        have q9 := str_beqt hts
        by_cases hs0 : s.size = 0
        · first
            | (exfalso; omega)
            | (have HZ := Lib.hid (show pRel s = none by rw [HE3.out]; unfold finR; rw [if_neg (fun h => h.2 hs0)])
               have z1 := isEmpty_yes hs0
               have z2 : (s.toList == (ByteArray.mk #[]).toList) = true := str_beqt (bl_inj (size_zero hs0))
               clear ht hts
               go_wp2_with (go_at_call 86; refine (specFormatRelation_w HRN.out HRL.out HV.out).mono ?_; rintro e w8 ⟨rfl, hx8⟩; rw [HT.out]; obtain ⟨l8, k8, k8', f8⟩ := bx2 (HB.out.toExt hx8); obtain ⟨l9, k9, k9', f9⟩ := bx2 (HR5.out.toExt hx8))
               have hX := HXr.out
               refine bodyPost_ret (v := .tuple #[.agg #[.int .i64 0, .slice none 0 0], .bool false]) (by simp [results, Try.results56, go_sem, *]) rfl (relOut_none HZ.out rfl (by refine Chg.isExt (F := []) ?_ (refl_ext _) (by simp); repeat (with_reducible (first | exact Chg.refl _ _ | exact Nat.le_refl _ | exact Chg.ofExt (by assumption) | refine Chg.trans0 ?_ (by assumption) | refine Chg.extS ?_ _ | refine Chg.alloc ?_ _ | refine Chg.drew ?_ | refine Chg.setCellE ?_ ?_ _ | refine le_addk ?_ _ | refine le_ext ?_ | refine le_alloc ?_ _ | refine le_setC ?_ _ _ | refine le_drew ?_ | assumption | (refine Nat.le_of_lt ?_; omega) | omega)))))
        · have z1 := isEmpty_no (s := s) (by omega)
          have z2 := toList_empty (s := s) (by omega)
          have HE4 := Lib.hid (show pRel s = some (a, ([] : List (List Int))) by rw [HE3.out]; unfold finR; rw [if_pos ⟨ht.trans hts, hs0⟩])
          clear ht hts hs0
          go_wp2_with (go_at_call 86; refine (specFormatRelation_w HRN.out HRL.out HV.out).mono ?_; rintro e w8 ⟨rfl, hx8⟩; rw [HT.out]; obtain ⟨l8, k8, k8', f8⟩ := bx2 (HB.out.toExt hx8); obtain ⟨l9, k9, k9', f9⟩ := bx2 (HR5.out.toExt hx8))
          have hX := HXr.out
          have hQ8 : sRel w8 [.int .i64 a, .slice none ([] : List (List Int)).length 0] (a, ([] : List (List Int))) [] := OD.toExt HQ.out hx8
          refine bodyPost_ret (v := .tuple #[.agg #[.int .i64 a, .slice none ([] : List (List Int)).length 0], .bool true]) (by simp [results, Try.results56, go_sem, *]) rfl ⟨_, _, [], by rw [HE4.out]; rfl, (by refine Chg.isExt (F := []) ?_ (refl_ext _) (by simp); repeat (with_reducible (first | exact Chg.refl _ _ | exact Nat.le_refl _ | exact Chg.ofExt (by assumption) | refine Chg.trans0 ?_ (by assumption) | refine Chg.extS ?_ _ | refine Chg.alloc ?_ _ | refine Chg.drew ?_ | refine Chg.setCellE ?_ ?_ _ | refine le_addk ?_ _ | refine le_ext ?_ | refine le_alloc ?_ _ | refine le_setC ?_ _ _ | refine le_drew ?_ | assumption | (refine Nat.le_of_lt ?_; omega) | omega))), by rw [HE4.out]; exact OD.chg (G := [w.heap.size]) hQ8 (by repeat (with_reducible (first | exact Chg.refl _ _ | refine Chg.trans0 ?_ (by assumption) | refine Chg.extS ?_ _ | refine Chg.alloc ?_ _ | refine Chg.drew ?_ | refine Chg.setCell ?_ (.inl (by simp)) _))) (fun b hb h => by have := HFN.out b hb; rw [List.mem_singleton.1 h] at this; omega), HN.out, fun b hb => Nat.le_of_lt (HFN.out b hb)⟩
      · have q8 := str_bnef hts
        have q9 := str_beqf hts
        have HZ := Lib.hid (show pRel s = none by rw [HE3.out]; unfold finR; rw [if_neg (fun h => hts (ht.symm.trans h.1))])
        clear ht hts
        go_wp2_with (go_at_call 86; refine (specFormatRelation_w HRN.out HRL.out HV.out).mono ?_; rintro e w8 ⟨rfl, hx8⟩; rw [HT.out]; obtain ⟨l8, k8, k8', f8⟩ := bx2 (HB.out.toExt hx8); obtain ⟨l9, k9, k9', f9⟩ := bx2 (HR5.out.toExt hx8))
        have hX := HXr.out
        refine bodyPost_ret (v := .tuple #[.agg #[.int .i64 0, .slice none 0 0], .bool false]) (by simp [results, Try.results56, go_sem, *]) rfl (relOut_none HZ.out rfl (by refine Chg.isExt (F := []) ?_ (refl_ext _) (by simp); repeat (with_reducible (first | exact Chg.refl _ _ | exact Nat.le_refl _ | exact Chg.ofExt (by assumption) | refine Chg.trans0 ?_ (by assumption) | refine Chg.extS ?_ _ | refine Chg.alloc ?_ _ | refine Chg.drew ?_ | refine Chg.setCellE ?_ ?_ _ | refine le_addk ?_ _ | refine le_ext ?_ | refine le_alloc ?_ _ | refine le_setC ?_ _ _ | refine le_drew ?_ | assumption | (refine Nat.le_of_lt ?_; omega) | omega))))
    · have z1 := isEmpty_no (s := p2) (by omega)
      have z2 := toList_empty (s := p2) (by omega)
      have z3 : (p2.toList != (ByteArray.mk #[]).toList) = true := by rw [bne, z2]; rfl
      obtain ⟨xs, hxs⟩ : ∃ xs, splB 32 p2 = xs := ⟨_, rfl⟩
      have HROWS := Lib.hid (show sRows s = xs.map rowS by rw [HSR.out, HP2.out, if_pos ⟨hl, hz⟩, hxs])
      clear hz hl
      go_wp2_with fail
      refine (l5Cut_m 32 32 (by omega) (by decide)).mono ?_
      rintro e w4 ⟨vx, Fx, rfl, hx4, hSx, hFx⟩
      have hxl : xs.length ≤ p2.size + 1 := by rw [← hxs]; exact splB_length 32 p2
      have hxp : ∀ x ∈ xs, x.size ≤ p2.size := by rw [← hxs]; exact fun x hx => splB_piece hx
      rw [hxs] at hSx
      obtain ⟨Ax, cx, rfl, _, _⟩ := hSx.form
      have B74 := B7.toExt hx4
      have HR4 := Lib.hid (R4.toExt hx4)
      have HX4 := Lib.hid (trans_ext hx04 hx4)
      have hz4 := size_of_ext hx4
      have h7x : ∀ b ∈ Fx, b ∉ [b7] := fun b hb h => by have := hFx b hb; rw [List.mem_singleton.1 h] at this; omega
      have HSx := Lib.hid hSx
      have H7x := Lib.hid h7x
      have HXP := Lib.hid hxp
      have HB74 := Lib.hid B74
      have h74 : b7 < w4.heap.size := B74.1
      clear hxs hxp hSx hFx h7x B7 B74 R4 r4 hb1 hc1 hx04 hx4 z1 z2 z3 x14 hx01
      go_wp2_with fail
      go_loopw [7] (fun i wr => ∃ (k : Nat) (rows : List (List Int)) (A : Option Addr) (c : Nat) (F : List Nat), i = .int .i64 k ∧ k ≤ xs.length ∧ BoxAt wr b7 #[.int .i64 a, .slice A rows.length c] ∧ SV 48 1 sRow wr (.slice A rows.length c) rows F ∧ F.Nodup ∧ (∀ b ∈ F, w4.heap.size ≤ b) ∧ Chg [b7] w4 wr ∧ rows.length ≤ k ∧ (∀ x ∈ rows, x.length ≤ 1000000000) ∧ Hid (rows ++ (xs.drop k).map rowS = xs.map rowS)) (fun i _ => xs.length - (intOf i).toNat)
      case atStart => exact ⟨0, [], none, 0, [], rfl, by omega, HB74.out, SV.nil, by simp, by simp, Chg.refl _ _, by simp, by simp, Lib.hid (by simp)⟩
      case round =>
        obtain ⟨k, rows, A, c, F, rfl, hk, hB, hS, hN, hF, hC, hrl, hrx, Hj⟩ := hrel
        have HS := Lib.hid hS
        have HSl := Lib.hid hS.lt
        have HN := Lib.hid hN
        have HF := Lib.hid hF
        have HC := Lib.hid hC
        have HRL := Lib.hid hrx
        have HB := Lib.hid hB
        have h7r : b7 < wr.heap.size := hB.1
        have hzc := hC.size
        by_cases hlt : k < xs.length
        · obtain ⟨_, _, e5, _, _, rx⟩ := (HSx.out.chg hC H7x.out).view sS_v
          injection e5 with e5 _ e6
          subst e5 e6
          obtain ⟨bx, ox, rfl, hbx, hcx⟩ := rx.atS hlt
          have ej := mapd_step hlt Hj.out
          obtain ⟨wd, hwd⟩ : ∃ x, xs[k] = x := ⟨_, rfl⟩
          have hwdp : wd.size ≤ p2.size := by rw [← hwd]; exact HXP.out _ (List.getElem_mem hlt)
          rw [hwd] at ej hcx
          have hrw := rowS_len wd
          clear hwd hS hN hF hC hrx hB rx
          have hE0 := SV.empty (α := Int) (te := 3) (size := 1) (E := sI) wr
          by_cases h2 : 2 < wd.size
          · have HRW := Lib.hid (show rowS wd = (splB 44 (wd.extract 1 (wd.size - 1))).map gInt by unfold rowS; rw [if_pos h2]; rfl)
            have hes : (wd.extract 1 (wd.size - 1)).size ≤ 1000000000 := by rw [ByteArray.size_extract]; omega
            have i6 : IntKind.i64.wrap ((wd.size : Int) - 1) = ((wd.size - 1 : Nat) : Int) := by rw [IntKind.wrap_i64]; omega
            have i0 : (0 : Int) ≤ 1 := by omega
            have i1 : (1 : Int) ≤ ((wd.size - 1 : Nat) : Int) := by omega
            have i2 : ((wd.size - 1 : Nat) : Int) ≤ (wd.size : Int) := by omega
            have i3 : 1 ≤ wd.size - 1 := by omega
            have i4 : wd.size - 1 ≤ wd.size := by omega
            obtain ⟨ys, hys⟩ : ∃ ys, splB 44 (wd.extract 1 (wd.size - 1)) = ys := ⟨_, rfl⟩
            have HYS := Lib.hid hys
            have hyl : ys.length ≤ 1048577 := by rw [← hys]; exact Nat.le_trans (splB_length 44 _) (by rw [ByteArray.size_extract]; omega)
            have HYP : Hid (∀ y ∈ ys, y.size ≤ 1000000000) := Lib.hid (by rw [← hys]; exact fun y hy => Nat.le_trans (splB_piece hy) hes)
            rw [hys] at HRW
            have HEJ := Lib.hid ej
            clear hys ej
            go_upto_region 11 with fail
            refine wp_name ?_
            intro W5 hW5
            have x5 : ∃ y, W5 = ext wr y := by rw [hW5.out]; exact (by refine Chg.isExt (F := []) ?_ (refl_ext _) (by simp); repeat (with_reducible (first | exact Chg.refl _ _ | exact Nat.le_refl _ | exact Chg.ofExt (by assumption) | refine Chg.trans0 ?_ (by assumption) | refine Chg.extS ?_ _ | refine Chg.alloc ?_ _ | refine Chg.drew ?_ | refine Chg.setCellE ?_ ?_ _ | refine le_addk ?_ _ | refine le_ext ?_ | refine le_alloc ?_ _ | refine le_setC ?_ _ _ | refine le_drew ?_ | assumption | (refine Nat.le_of_lt ?_; omega) | omega)))
            have E5 : SV 3 1 sI W5 (.slice (some ⟨wr.heap.size, 0, none⟩) 0 0) [] [wr.heap.size] := by rw [hW5.out]; exact hE0
            have hcx5 := cellW x5 hbx hcx
            have hbx5 := ltW x5 hbx
            have hwr5 : wr.heap.size < W5.heap.size := E5.lt _ (by simp)
            have HBB := Lib.hid (HB.out.toExt x5)
            have HSB := Lib.hid (HS.out.toExt x5)
            have HCB := Lib.hid (HC.out.trans0 x5)
            obtain ⟨b8, q8⟩ : ∃ b, wr.heap.size = b := ⟨_, rfl⟩
            rw [q8] at E5 HSl h7r hzc hwr5 ⊢
            clear hW5 hE0 hcx hbx q8 HB HS HC x5
            go_region_held3 (fun w' => (∀ a : Addr, a.block < W5.heap.size → w'.cell? a = W5.cell? a) ∧ ∃ y, w' = ext W5 y) (first | exact heldE (by refine Chg.isExt (F := []) ?_ (refl_ext _) (by simp); repeat (with_reducible (first | exact Chg.refl _ _ | exact Nat.le_refl _ | exact Chg.ofExt (by assumption) | refine Chg.trans0 ?_ (by assumption) | refine Chg.extS ?_ _ | refine Chg.alloc ?_ _ | refine Chg.drew ?_ | refine Chg.setCellE ?_ ?_ _ | refine le_addk ?_ _ | refine le_ext ?_ | refine le_alloc ?_ _ | refine le_setC ?_ _ _ | refine le_drew ?_ | assumption | (refine Nat.le_of_lt ?_; omega) | omega)))) ((go_at_call 98; refine (l5Cut_m 44 44 hes (by decide)).mono ?_; rintro e w6 ⟨vy, Fy, rfl, hx6, hSy, hFy⟩; rw [HYS.out] at hSy; obtain ⟨Ay, cy, rfl, _, _⟩ := hSy.form))
            have x56 : ∃ y, w6 = ext W5 y := trans_ext (drew_ext W5) hx6
            have E6 := E5.toExt x56
            have hz6 := size_of_ext x56
            have H8y : Hid (∀ b ∈ Fy, b ∉ [b8]) := Lib.hid (fun b hb h => by have := hFy b hb; rw [List.mem_singleton.1 h, show W5.drew.heap.size = W5.heap.size from rfl] at this; omega)
            have HSy := Lib.hid hSy
            have HX56 := Lib.hid (Chg.ofExt (F := [b8]) x56)
            clear E5 hcx5 hbx5 hSy hFy hx6 x56
            go_wp2_with fail
            go_loopw [8, 10] (fun v i vr => ∃ (j : Nat) (ds : List Int) (G : List Nat), i = .int .i64 j ∧ j ≤ ys.length ∧ SV 3 1 sI vr v ds G ∧ (∀ b ∈ G, b = b8 ∨ w6.heap.size ≤ b) ∧ Chg [b8] w6 vr ∧ ds.length ≤ j ∧ Hid (ds ++ (ys.drop j).map gInt = ys.map gInt)) (fun _ i _ => ys.length - (intOf i).toNat)
            case atStart => exact ⟨0, [], [b8], rfl, by omega, E6, by simp, Chg.refl _ _, by simp, Lib.hid (by simp)⟩
            case round =>
              clear E6
              obtain ⟨j, ds, G, rfl, hj, hX, hG, hCv, hdl, Hd⟩ := hrel
              have HX := Lib.hid hX
              have HG := Lib.hid hG
              have HCv := Lib.hid hCv
              have hzv := hCv.size
              clear hX hG
              by_cases hjl : j < ys.length
              · obtain ⟨_, _, ey, _, _, ry⟩ := (HSy.out.chg hCv H8y.out).view sS_v
                injection ey with ey _ ey2
                subst ey ey2
                obtain ⟨by_, oy, rfl, hby, hcy⟩ := ry.atS hjl
                have ed := mapd_step hjl Hd.out
                have hys9 := HYP.out _ (List.getElem_mem hjl)
                obtain ⟨u, hu⟩ : ∃ u, ys[j] = u := ⟨_, rfl⟩
                rw [hu] at ed hcy hys9
                obtain ⟨z, hz⟩ : ∃ z, gInt u = z := ⟨_, rfl⟩
                obtain ⟨tz, htz⟩ : ∃ t, (pInt u).isSome = t := ⟨_, rfl⟩
                have HZ1 := Lib.hid (show (pInt u).getD 0 = z from hz)
                have HZ2 := Lib.hid htz
                rw [hz] at ed
                have HED := Lib.hid ed
                clear ed hz htz hu ry hCv
                go_wp2_with (first
                  | (go_at_call 139; refine (specParseInt_any hys9).mono ?_; unfold PiRes; rintro e w7 ⟨rfl, hx7⟩; rw [HZ1.out, HZ2.out])
                  | (at_builtin; refine wpList_app1 (E := sI) (d := z) rfl _ _ _ rfl tI rfl rfl rfl (by simp) (fun _ => ⟨rfl, rfl⟩) rfl (by simp [Value.oneCell']) (HX.out.toExt hx7) (by omega) (by omega) ?_; intro v8 w8 F8 hS8 hC8 hF8))
                have hz7 := size_of_ext hx7
                have hG8 : ∀ b ∈ F8, b = b8 ∨ w6.heap.size ≤ b := fun b hb => by
                  rcases hF8 b hb with h | h
                  · exact HG.out b h
                  · exact .inr (by omega)
                exact ⟨⟨j + 1, ds ++ [z], F8, by go_num, by omega, hS8, hG8, (HCv.out.trans0 hx7).trans hC8 (fun x hx => (HG.out x hx).imp (fun h => by simp [h]) id), by simp; omega, HED⟩, by simp [intOf]; omega⟩
              · have ed := mapd_end hjl Hd.out
                have HD := Lib.hid (show ds = rowS wd by rw [HRW.out, ed])
                have hdl2 : ds.length ≤ 1000000000 := by omega
                have HJ2 : Hid ((rows ++ [ds]) ++ (xs.drop (k + 1)).map rowS = xs.map rowS) := Lib.hid (by rw [HD.out]; exact HEJ.out)
                have HG8 : Hid (∀ b ∈ G, b8 ≤ b) := Lib.hid (fun b hb => by
                  rcases HG.out b hb with h | h <;> omega)
                have HXX := Lib.hid (HX56.out.trans hCv (fun x hx => .inl hx))
                obtain ⟨Ad, cd, rfl, _, _⟩ := HX.out.form
                clear ed Hd hCv HCv
                have hNN := nodup_more HN.out HX.out.nodup HSl.out HG8.out
                have hal2 : rows.length + 1 ≤ 2000000000 := by omega
                have h7nF : b7 ∉ F := fun h => by have := HF.out b7 h; omega
                have XX2 := HXX.out
                have B5 := HBB.out.chg XX2 (by simp; omega)
                have S5 := HSB.out.chg XX2 (fun b hb h => by have := HSl.out b hb; rw [List.mem_singleton.1 h] at this; omega)
                have HC5 := Lib.hid (HCB.out.trans XX2 (fun x hx => .inr (by rw [List.mem_singleton.1 hx]; omega)))
                have hzw4 := HC5.out.size
                obtain ⟨l5, k5, k5', f5⟩ := bx2 B5
                clear XX2
                go_wp2_with (at_builtin; refine wpList_appN (E := sRow) (d := ds) (G := G) rfl _ _ _ rfl tIIr rfl rfl rfl (by simp) ⟨_, rfl, HX.out⟩ rfl (by simp [Value.oneCell']) S5 hNN hal2 (by omega) ?_; intro v6 w6 F6 hS6 hC6 hN6 hF6; obtain ⟨A6, c6, rfl, _, _⟩ := hS6.form; have B6 := B5.chg hC6 h7nF; obtain ⟨l6, k6, k6', f6⟩ := bx2 B6)
                have hF6n : ∀ b ∈ F6, w4.heap.size ≤ b := fun b hb => by
                  rcases hF6 b hb with h | h | h
                  · exact HF.out b h
                  · have := HG8.out b h; omega
                  · omega
                have hCa := (HC5.out.trans hC6 (fun x hx => .inr (HF.out x hx))).setCell (p := ⟨b7, 1, none⟩) (.inl (by simp)) (.slice A6 (rows ++ [ds]).length c6)
                have hSf := hS6.chg ((Chg.refl [b7] w6).setCell (p := ⟨b7, 1, none⟩) (.inl (by simp)) (.slice A6 (rows ++ [ds]).length c6)) (fun b hb h => by have := hF6n b hb; rw [List.mem_singleton.1 h] at this; omega)
                have hBf := B6.setP1 (v' := .slice A6 (rows ++ [ds]).length c6)
                have HRf : ∀ x ∈ rows ++ [ds], x.length ≤ 1000000000 := fun x hx => by
                  rcases List.mem_append.1 hx with h | h
                  · exact HRL.out x h
                  · rw [List.mem_singleton.1 h]; first | omega | simp
                rw [show rows.length + 1 = (rows ++ [ds]).length by simp]
                exact ⟨⟨k + 1, rows ++ [ds], A6, c6, F6, by go_num, by omega, hBf, hSf, hN6, hF6n, hCa, by simp; omega, HRf, HJ2⟩, by simp [intOf]; omega⟩
          · have HJ2 : Hid ((rows ++ [[]]) ++ (xs.drop (k + 1)).map rowS = xs.map rowS) := Lib.hid (by rw [show ([] : List Int) = rowS wd by unfold rowS; rw [if_neg h2]]; exact ej)
            clear ej
            go_upto_region 17 with fail
            refine wp_name ?_
            intro W5 hW5
            have x5 : ∃ y, W5 = ext wr y := by rw [hW5.out]; exact (by refine Chg.isExt (F := []) ?_ (refl_ext _) (by simp); repeat (with_reducible (first | exact Chg.refl _ _ | exact Nat.le_refl _ | exact Chg.ofExt (by assumption) | refine Chg.trans0 ?_ (by assumption) | refine Chg.extS ?_ _ | refine Chg.alloc ?_ _ | refine Chg.drew ?_ | refine Chg.setCellE ?_ ?_ _ | refine le_addk ?_ _ | refine le_ext ?_ | refine le_alloc ?_ _ | refine le_setC ?_ _ _ | refine le_drew ?_ | assumption | (refine Nat.le_of_lt ?_; omega) | omega)))
            have E5 : SV 3 1 sI W5 (.slice (some ⟨wr.heap.size, 0, none⟩) 0 0) [] [wr.heap.size] := by rw [hW5.out]; exact hE0
            have HBB := Lib.hid (HB.out.toExt x5)
            have HSB := Lib.hid (HS.out.toExt x5)
            have HCB := Lib.hid (HC.out.trans0 x5)
            obtain ⟨b8, q8⟩ : ∃ b, wr.heap.size = b := ⟨_, rfl⟩
            rw [q8] at E5 HSl h7r hzc ⊢
            have HX := Lib.hid E5
            have HG8 : Hid (∀ b ∈ [b8], b8 ≤ b) := Lib.hid (by simp)
            have HXX := Lib.hid (Chg.refl [b8] W5)
            clear hW5 hE0 hcx hbx q8 HB HS HC x5 E5
            have hNN := nodup_more HN.out HX.out.nodup HSl.out HG8.out
            have hal2 : rows.length + 1 ≤ 2000000000 := by omega
            have h7nF : b7 ∉ F := fun h => by have := HF.out b7 h; omega
            have XX2 := HXX.out
            have B5 := HBB.out.chg XX2 (by simp; omega)
            have S5 := HSB.out.chg XX2 (fun b hb h => by have := HSl.out b hb; rw [List.mem_singleton.1 h] at this; omega)
            have HC5 := Lib.hid (HCB.out.trans XX2 (fun x hx => .inr (by rw [List.mem_singleton.1 hx]; omega)))
            have hzw4 := HC5.out.size
            obtain ⟨l5, k5, k5', f5⟩ := bx2 B5
            clear XX2
            go_wp2_with (at_builtin; refine wpList_appN (E := sRow) (d := ([] : List Int)) (G := [b8]) rfl _ _ _ rfl tIIr rfl rfl rfl (by simp) ⟨_, rfl, HX.out⟩ rfl (by simp [Value.oneCell']) S5 hNN hal2 (by omega) ?_; intro v6 w6 F6 hS6 hC6 hN6 hF6; obtain ⟨A6, c6, rfl, _, _⟩ := hS6.form; have B6 := B5.chg hC6 h7nF; obtain ⟨l6, k6, k6', f6⟩ := bx2 B6)
            have hF6n : ∀ b ∈ F6, w4.heap.size ≤ b := fun b hb => by
              rcases hF6 b hb with h | h | h
              · exact HF.out b h
              · have := HG8.out b h; omega
              · omega
            have hCa := (HC5.out.trans hC6 (fun x hx => .inr (HF.out x hx))).setCell (p := ⟨b7, 1, none⟩) (.inl (by simp)) (.slice A6 (rows ++ [([] : List Int)]).length c6)
            have hSf := hS6.chg ((Chg.refl [b7] w6).setCell (p := ⟨b7, 1, none⟩) (.inl (by simp)) (.slice A6 (rows ++ [([] : List Int)]).length c6)) (fun b hb h => by have := hF6n b hb; rw [List.mem_singleton.1 h] at this; omega)
            have hBf := B6.setP1 (v' := .slice A6 (rows ++ [([] : List Int)]).length c6)
            have HRf : ∀ x ∈ rows ++ [([] : List Int)], x.length ≤ 1000000000 := fun x hx => by
              rcases List.mem_append.1 hx with h | h
              · exact HRL.out x h
              · rw [List.mem_singleton.1 h]; first | omega | simp
            rw [show rows.length + 1 = (rows ++ [([] : List Int)]).length by simp]
            exact ⟨⟨k + 1, rows ++ [([] : List Int)], A6, c6, F6, by go_num, by omega, hBf, hSf, hN6, hF6n, hCa, by simp; omega, HRf, HJ2⟩, by simp [intOf]; omega⟩
        · have ej := mapd_end hlt Hj.out
          have HE3 := Lib.hid (show pRel s = finR (a, rows) s by rw [HE.out, HROWS.out, ← ej])
          have HXr := Lib.hid (hC.isExt HX4.out (by simp; omega))
          have HR5 := Lib.hid (HR4.out.chg hC (by simp; omega))
          have HRN : Hid (rows.length ≤ 1000000000) := Lib.hid (by omega)
          have hz4w := size_of_ext HX4.out
          have HFN : Hid (∀ b ∈ F, w.heap.size < b) := Lib.hid (fun b hb => by have := HF.out b hb; omega)
          clear ej hS hN hF hC hrx hB
          have hq : sRel wr [.int .i64 a, .slice A rows.length c] (a, rows) F := sRel_mk ⟨_, rfl, HS.out⟩
          have HQ := Lib.hid hq
          have HV := Lib.hid (vII_get (vRel_get (sRel_v _ _ _ hq)).2).2
          obtain ⟨l7, k7, k7', f7⟩ := bx2 HB.out
          obtain ⟨l5, k5, k5', f5⟩ := bx2 HR5.out
          clear hq
          obtain ⟨t, ht⟩ : ∃ t, fmtR (a, rows) = t := ⟨_, rfl⟩
          have HT := Lib.hid ht
          by_cases hts : t = s
          · have q8 := str_bnet hts
            have q9 := str_beqt hts
            by_cases hs0 : s.size = 0
            · first
                | (exfalso; omega)
                | (have HZ := Lib.hid (show pRel s = none by rw [HE3.out]; unfold finR; rw [if_neg (fun h => h.2 hs0)])
                   have z1 := isEmpty_yes hs0
                   have z2 : (s.toList == (ByteArray.mk #[]).toList) = true := str_beqt (bl_inj (size_zero hs0))
                   clear ht hts
                   go_wp2_with (go_at_call 86; refine (specFormatRelation_w HRN.out HRL.out HV.out).mono ?_; rintro e w8 ⟨rfl, hx8⟩; rw [HT.out]; obtain ⟨l8, k8, k8', f8⟩ := bx2 (HB.out.toExt hx8); obtain ⟨l9, k9, k9', f9⟩ := bx2 (HR5.out.toExt hx8))
                   have hX := HXr.out
                   refine bodyPost_ret (v := .tuple #[.agg #[.int .i64 0, .slice none 0 0], .bool false]) (by simp [results, Try.results56, go_sem, *]) rfl (relOut_none HZ.out rfl (by refine Chg.isExt (F := []) ?_ (refl_ext _) (by simp); repeat (with_reducible (first | exact Chg.refl _ _ | exact Nat.le_refl _ | exact Chg.ofExt (by assumption) | refine Chg.trans0 ?_ (by assumption) | refine Chg.extS ?_ _ | refine Chg.alloc ?_ _ | refine Chg.drew ?_ | refine Chg.setCellE ?_ ?_ _ | refine le_addk ?_ _ | refine le_ext ?_ | refine le_alloc ?_ _ | refine le_setC ?_ _ _ | refine le_drew ?_ | assumption | (refine Nat.le_of_lt ?_; omega) | omega)))))
            · have z1 := isEmpty_no (s := s) (by omega)
              have z2 := toList_empty (s := s) (by omega)
              have HE4 := Lib.hid (show pRel s = some (a, rows) by rw [HE3.out]; unfold finR; rw [if_pos ⟨ht.trans hts, hs0⟩])
              clear ht hts hs0
              go_wp2_with (go_at_call 86; refine (specFormatRelation_w HRN.out HRL.out HV.out).mono ?_; rintro e w8 ⟨rfl, hx8⟩; rw [HT.out]; obtain ⟨l8, k8, k8', f8⟩ := bx2 (HB.out.toExt hx8); obtain ⟨l9, k9, k9', f9⟩ := bx2 (HR5.out.toExt hx8))
              have hX := HXr.out
              have hQ8 : sRel w8 [.int .i64 a, .slice A rows.length c] (a, rows) F := OD.toExt HQ.out hx8
              refine bodyPost_ret (v := .tuple #[.agg #[.int .i64 a, .slice A rows.length c], .bool true]) (by simp [results, Try.results56, go_sem, *]) rfl ⟨_, _, F, by rw [HE4.out]; rfl, (by refine Chg.isExt (F := []) ?_ (refl_ext _) (by simp); repeat (with_reducible (first | exact Chg.refl _ _ | exact Nat.le_refl _ | exact Chg.ofExt (by assumption) | refine Chg.trans0 ?_ (by assumption) | refine Chg.extS ?_ _ | refine Chg.alloc ?_ _ | refine Chg.drew ?_ | refine Chg.setCellE ?_ ?_ _ | refine le_addk ?_ _ | refine le_ext ?_ | refine le_alloc ?_ _ | refine le_setC ?_ _ _ | refine le_drew ?_ | assumption | (refine Nat.le_of_lt ?_; omega) | omega))), by rw [HE4.out]; exact OD.chg (G := [w.heap.size]) hQ8 (by repeat (with_reducible (first | exact Chg.refl _ _ | refine Chg.trans0 ?_ (by assumption) | refine Chg.extS ?_ _ | refine Chg.alloc ?_ _ | refine Chg.drew ?_ | refine Chg.setCell ?_ (.inl (by simp)) _))) (fun b hb h => by have := HFN.out b hb; rw [List.mem_singleton.1 h] at this; omega), HN.out, fun b hb => Nat.le_of_lt (HFN.out b hb)⟩
          · have q8 := str_bnef hts
            have q9 := str_beqf hts
            have HZ := Lib.hid (show pRel s = none by rw [HE3.out]; unfold finR; rw [if_neg (fun h => hts (ht.symm.trans h.1))])
            clear ht hts
            go_wp2_with (go_at_call 86; refine (specFormatRelation_w HRN.out HRL.out HV.out).mono ?_; rintro e w8 ⟨rfl, hx8⟩; rw [HT.out]; obtain ⟨l8, k8, k8', f8⟩ := bx2 (HB.out.toExt hx8); obtain ⟨l9, k9, k9', f9⟩ := bx2 (HR5.out.toExt hx8))
            have hX := HXr.out
            refine bodyPost_ret (v := .tuple #[.agg #[.int .i64 0, .slice none 0 0], .bool false]) (by simp [results, Try.results56, go_sem, *]) rfl (relOut_none HZ.out rfl (by refine Chg.isExt (F := []) ?_ (refl_ext _) (by simp); repeat (with_reducible (first | exact Chg.refl _ _ | exact Nat.le_refl _ | exact Chg.ofExt (by assumption) | refine Chg.trans0 ?_ (by assumption) | refine Chg.extS ?_ _ | refine Chg.alloc ?_ _ | refine Chg.drew ?_ | refine Chg.setCellE ?_ ?_ _ | refine le_addk ?_ _ | refine le_ext ?_ | refine le_alloc ?_ _ | refine le_setC ?_ _ _ | refine le_drew ?_ | assumption | (refine Nat.le_of_lt ?_; omega) | omega))))
  · have q1 : ((ws.length : Int) == 2) = false := by rw [beq_eq_false_iff_ne]; omega
    have HROWS := Lib.hid (show sRows s = [] by rw [HSR.out, if_neg (fun h => hl h.1)])
    clear hl
    go_upto_region 18 with fail
    clear q1
    have HE3 := Lib.hid (show pRel s = finR (a, []) s by rw [HE.out]; rw [show sRows s = [] from HROWS.out])
    have HS : Hid (SV 48 1 sRow W4 (.slice none ([] : List (List Int)).length 0) [] []) := Lib.hid SV.nil
    have HB := Lib.hid B7
    have HR5 := Lib.hid R4
    have HXr := Lib.hid hx04
    have HRN : Hid (([] : List (List Int)).length ≤ 1000000000) := Lib.hid (by simp)
    have HRL : Hid (∀ x ∈ ([] : List (List Int)), x.length ≤ 1000000000) := Lib.hid (by simp)
    have HN : Hid ([] : List Nat).Nodup := Lib.hid (by simp)
    have HFN : Hid (∀ b ∈ ([] : List Nat), w.heap.size < b) := Lib.hid (by simp)
    clear B7 R4
    have hq : sRel W4 [.int .i64 a, .slice none ([] : List (List Int)).length 0] (a, ([] : List (List Int))) [] := sRel_mk ⟨_, rfl, HS.out⟩
    have HQ := Lib.hid hq
    have HV := Lib.hid (vII_get (vRel_get (sRel_v _ _ _ hq)).2).2
    obtain ⟨l7, k7, k7', f7⟩ := bx2 HB.out
    obtain ⟨l5, k5, k5', f5⟩ := bx2 HR5.out
    clear hq
    obtain ⟨t, ht⟩ : ∃ t, fmtR (a, ([] : List (List Int))) = t := ⟨_, rfl⟩
    have HT := Lib.hid ht
    by_cases hts : t = s
    · have q8 := str_bnet hts
      have q9 := str_beqt hts
      by_cases hs0 : s.size = 0
      · first
          | (exfalso; omega)
          | (have HZ := Lib.hid (show pRel s = none by rw [HE3.out]; unfold finR; rw [if_neg (fun h => h.2 hs0)])
             have z1 := isEmpty_yes hs0
             have z2 : (s.toList == (ByteArray.mk #[]).toList) = true := str_beqt (bl_inj (size_zero hs0))
             clear ht hts
             go_wp2_with (go_at_call 86; refine (specFormatRelation_w HRN.out HRL.out HV.out).mono ?_; rintro e w8 ⟨rfl, hx8⟩; rw [HT.out]; obtain ⟨l8, k8, k8', f8⟩ := bx2 (HB.out.toExt hx8); obtain ⟨l9, k9, k9', f9⟩ := bx2 (HR5.out.toExt hx8))
             have hX := HXr.out
             refine bodyPost_ret (v := .tuple #[.agg #[.int .i64 0, .slice none 0 0], .bool false]) (by simp [results, Try.results56, go_sem, *]) rfl (relOut_none HZ.out rfl (by refine Chg.isExt (F := []) ?_ (refl_ext _) (by simp); repeat (with_reducible (first | exact Chg.refl _ _ | exact Nat.le_refl _ | exact Chg.ofExt (by assumption) | refine Chg.trans0 ?_ (by assumption) | refine Chg.extS ?_ _ | refine Chg.alloc ?_ _ | refine Chg.drew ?_ | refine Chg.setCellE ?_ ?_ _ | refine le_addk ?_ _ | refine le_ext ?_ | refine le_alloc ?_ _ | refine le_setC ?_ _ _ | refine le_drew ?_ | assumption | (refine Nat.le_of_lt ?_; omega) | omega)))))
      · have z1 := isEmpty_no (s := s) (by omega)
        have z2 := toList_empty (s := s) (by omega)
        have HE4 := Lib.hid (show pRel s = some (a, ([] : List (List Int))) by rw [HE3.out]; unfold finR; rw [if_pos ⟨ht.trans hts, hs0⟩])
        clear ht hts hs0
        go_wp2_with (go_at_call 86; refine (specFormatRelation_w HRN.out HRL.out HV.out).mono ?_; rintro e w8 ⟨rfl, hx8⟩; rw [HT.out]; obtain ⟨l8, k8, k8', f8⟩ := bx2 (HB.out.toExt hx8); obtain ⟨l9, k9, k9', f9⟩ := bx2 (HR5.out.toExt hx8))
        have hX := HXr.out
        have hQ8 : sRel w8 [.int .i64 a, .slice none ([] : List (List Int)).length 0] (a, ([] : List (List Int))) [] := OD.toExt HQ.out hx8
        refine bodyPost_ret (v := .tuple #[.agg #[.int .i64 a, .slice none ([] : List (List Int)).length 0], .bool true]) (by simp [results, Try.results56, go_sem, *]) rfl ⟨_, _, [], by rw [HE4.out]; rfl, (by refine Chg.isExt (F := []) ?_ (refl_ext _) (by simp); repeat (with_reducible (first | exact Chg.refl _ _ | exact Nat.le_refl _ | exact Chg.ofExt (by assumption) | refine Chg.trans0 ?_ (by assumption) | refine Chg.extS ?_ _ | refine Chg.alloc ?_ _ | refine Chg.drew ?_ | refine Chg.setCellE ?_ ?_ _ | refine le_addk ?_ _ | refine le_ext ?_ | refine le_alloc ?_ _ | refine le_setC ?_ _ _ | refine le_drew ?_ | assumption | (refine Nat.le_of_lt ?_; omega) | omega))), by rw [HE4.out]; exact OD.chg (G := [w.heap.size]) hQ8 (by repeat (with_reducible (first | exact Chg.refl _ _ | refine Chg.trans0 ?_ (by assumption) | refine Chg.extS ?_ _ | refine Chg.alloc ?_ _ | refine Chg.drew ?_ | refine Chg.setCell ?_ (.inl (by simp)) _))) (fun b hb h => by have := HFN.out b hb; rw [List.mem_singleton.1 h] at this; omega), HN.out, fun b hb => Nat.le_of_lt (HFN.out b hb)⟩
    · have q8 := str_bnef hts
      have q9 := str_beqf hts
      have HZ := Lib.hid (show pRel s = none by rw [HE3.out]; unfold finR; rw [if_neg (fun h => hts (ht.symm.trans h.1))])
      clear ht hts
      go_wp2_with (go_at_call 86; refine (specFormatRelation_w HRN.out HRL.out HV.out).mono ?_; rintro e w8 ⟨rfl, hx8⟩; rw [HT.out]; obtain ⟨l8, k8, k8', f8⟩ := bx2 (HB.out.toExt hx8); obtain ⟨l9, k9, k9', f9⟩ := bx2 (HR5.out.toExt hx8))
      have hX := HXr.out
      refine bodyPost_ret (v := .tuple #[.agg #[.int .i64 0, .slice none 0 0], .bool false]) (by simp [results, Try.results56, go_sem, *]) rfl (relOut_none HZ.out rfl (by refine Chg.isExt (F := []) ?_ (refl_ext _) (by simp); repeat (with_reducible (first | exact Chg.refl _ _ | exact Nat.le_refl _ | exact Chg.ofExt (by assumption) | refine Chg.trans0 ?_ (by assumption) | refine Chg.extS ?_ _ | refine Chg.alloc ?_ _ | refine Chg.drew ?_ | refine Chg.setCellE ?_ ?_ _ | refine le_addk ?_ _ | refine le_ext ?_ | refine le_alloc ?_ _ | refine le_setC ?_ _ _ | refine le_drew ?_ | assumption | (refine Nat.le_of_lt ?_; omega) | omega))))
end Go.Proofs.Ytfigcfajkilhiaa
