/- Contracts of functions that the statement reaches. -/
import Derived.Test.YtgnmpjjlclbieaaT02
import Derived.Test.YtgnmpjjlclbieaaT01
import Derived.Test.YtgnmpjjlclbieaaRows
namespace Go.Proofs.Ytgnmpjjlclbieaa
open Go.RowKit
theorem ins_at {name : ByteArray} {r : Rd} : ∀ {k : Nat} {d : Dbd}, k ≤ d.length → (∀ j, j < k → sLt (d.getD j zT).1 name = true) → insT name r d = d.take k ++ insT name r (d.drop k)
  | 0, d, _, _ => by simp
  | k + 1, [], h, _ => by simp at h
  | k + 1, t :: d, h, hl => by
    have h0 := hl 0 (by omega)
    rw [insT, if_pos (by simpa using h0), List.take_succ_cons, List.drop_succ_cons, List.cons_append, ← ins_at (d := d) (by simpa using h) fun j hj => by simpa using hl (j + 1) (by omega)]
theorem ins_end {name : ByteArray} {r : Rd} {k : Nat} {d : Dbd} (h : k = d.length) (hl : ∀ j, j < k → sLt (d.getD j zT).1 name = true) : insT name r d = d.take k ++ [(name, r)] ++ d.drop k := by
  subst h
  rw [ins_at (Nat.le_refl _) hl, List.drop_length, insT]
  simp
theorem ins_hit {name : ByteArray} {r : Rd} {k : Nat} {d : Dbd} (h : k < d.length) (hl : ∀ j, j < k → sLt (d.getD j zT).1 name = true) (he : d[k].1 = name) : insT name r d = d.set k (name, r) := by
  rw [ins_at (Nat.le_of_lt h) hl, List.drop_eq_getElem_cons h, insT, if_neg (by rw [he, sLt_irr]; decide), if_pos he, List.set_eq_take_append_cons_drop, if_pos h]
theorem ins_new {name : ByteArray} {r : Rd} {k : Nat} {d : Dbd} (h : k < d.length) (hl : ∀ j, j < k → sLt (d.getD j zT).1 name = true) (hn : sLt d[k].1 name = false) (he : d[k].1 ≠ name) : insT name r d = d.take k ++ [(name, r)] ++ d.drop k := by
  rw [ins_at (Nat.le_of_lt h) hl, List.drop_eq_getElem_cons h, insT, if_neg (by simp [hn]), if_neg he]
  simp
theorem insT_length (name : ByteArray) (r : Rd) : ∀ d : Dbd, (insT name r d).length ≤ d.length + 1
  | [] => by simp [insT]
  | t :: d => by
    have := insT_length name r d
    rw [insT]
    split
    · simp; omega
    · split <;> simp
theorem mem_insT {name : ByteArray} {r : Rd} {x : Td} : ∀ {d : Dbd}, x ∈ insT name r d → x = (name, r) ∨ x ∈ d
  | [], h => by simpa [insT] using h
  | t :: d, h => by
    rw [insT] at h
    split at h
    · rcases List.mem_cons.1 h with e | e
      · exact .inr (by simp [e])
      · rcases mem_insT e with e | e
        · exact .inl e
        · exact .inr (by simp [e])
    · split at h
      · rcases List.mem_cons.1 h with e | e
        · exact .inl e
        · exact .inr (by simp [e])
      · rcases List.mem_cons.1 h with e | e
        · exact .inl e
        · exact .inr e
theorem setD_bad {d : Dbd} {name : ByteArray} {r : Rd} (h : dbB d = false) : setD d name r = (d, false) := by
  unfold setD
  rw [if_neg (by simp [h])]
theorem setD_no {d : Dbd} {name : ByteArray} {r : Rd} (h : dbB (insT name r d) = false) : setD d name r = (d, false) := by
  unfold setD
  rw [if_neg (by simp [h])]
theorem setD_yes {d : Dbd} {name : ByteArray} {r : Rd} (h : dbB d = true) (h2 : dbB (insT name r d) = true) : setD d name r = (insT name r d, true) := by
  unfold setD
  rw [if_pos ⟨h, h2⟩]
def sAdd (name : ByteArray) (r : Rd) (put : Bool) (t : Td) : Dbd := (if put = false ∧ sLt t.1 name = false then [(name, r)] else []) ++ (if t.1 = name then [] else [t])
def sPre (name : ByteArray) (r : Rd) : Bool → Dbd → Dbd × Bool
  | put, [] => ([], put)
  | put, t :: d => (sAdd name r put t ++ (sPre name r (put || !sLt t.1 name) d).1, (sPre name r (put || !sLt t.1 name) d).2)
theorem sIns_pre {name : ByteArray} {r : Rd} : ∀ {put : Bool} {d : Dbd}, sIns name r put d = (sPre name r put d).1 ++ (if (sPre name r put d).2 = true then [] else [(name, r)])
  | put, [] => by cases put <;> simp [sIns, sPre]
  | put, t :: d => by
    rw [sIns, sPre, sIns_pre (d := d)]
    simp [sAdd]
theorem sPre_snoc {name : ByteArray} {r : Rd} {t : Td} : ∀ {put : Bool} {d : Dbd}, sPre name r put (d ++ [t]) = ((sPre name r put d).1 ++ sAdd name r (sPre name r put d).2 t, (sPre name r put d).2 || !sLt t.1 name)
  | put, [] => by simp [sPre]
  | put, u :: d => by
    rw [List.cons_append, sPre, sPre_snoc (d := d), sPre]
    simp
theorem sPre_take {name : ByteArray} {r : Rd} {d : Dbd} {k : Nat} (h : k < d.length) : sPre name r false (d.take (k + 1)) = ((sPre name r false (d.take k)).1 ++ sAdd name r (sPre name r false (d.take k)).2 d[k], (sPre name r false (d.take k)).2 || !sLt d[k].1 name) := by
  rw [List.take_succ_eq_append_getElem h, sPre_snoc]
theorem mem_sPre {name : ByteArray} {r : Rd} {x : Td} : ∀ {put : Bool} {d : Dbd}, x ∈ (sPre name r put d).1 → x = (name, r) ∨ x ∈ d
  | put, [], h => by simp [sPre] at h
  | put, t :: d, h => by
    rw [sPre] at h
    rcases List.mem_append.1 h with h | h
    · unfold sAdd at h
      rcases List.mem_append.1 h with h | h
      · split at h
        · exact .inl (List.mem_singleton.1 h)
        · cases h
      · split at h
        · cases h
        · exact .inr (by simp [List.mem_singleton.1 h])
    · rcases mem_sPre h with e | e
      · exact .inl e
      · exact .inr (by simp [e])
theorem setD_ref {d : Dbd} {name : ByteArray} {r : Rd} : setD d name r = if dbB d = true ∧ dbB (sIns name r false d) = true then (sIns name r false d, true) else (d, false) := by
  by_cases h : dbB d = true
  · rw [sIns_eq (dbB_iff.1 h).2.2]
    rfl
  · rw [setD_bad (by simpa using h), if_neg (fun k => h k.1)]
end Go.Proofs.Ytgnmpjjlclbieaa
namespace Go.Proofs.Ytgnmpjjlclbieaa
open Go.RowKit
theorem str_beqf {s t : ByteArray} (h : s ≠ t) : (s.toList == t.toList) = false := by rw [str_beq, decide_eq_false h]
theorem str_beqt {s t : ByteArray} (h : s = t) : (s.toList == t.toList) = true := by rw [str_beq, decide_eq_true h]
end Go.Proofs.Ytgnmpjjlclbieaa
namespace Go.Proofs.Ytgnmpjjlclbieaa
open Go.RowKit
structure SzR (d : Rd) : Prop where
  a : I64 d.1
  n : d.2.length ≤ 4000
  rl : ∀ r ∈ d.2, r.length ≤ 5
  rv : ∀ r ∈ d.2, ∀ v ∈ r, 0 ≤ v ∧ v ≤ 99
theorem rowsB_sz {d : Rd} (h : rowsB d.1 d.2 = true) : SzR d := by
  obtain ⟨h1, h2, h3, h4, _⟩ := rowsB_iff.1 h
  refine ⟨⟨by omega, by omega⟩, h3, fun r hr => by have := (h4 r hr).1; omega, fun r hr v hv => ?_⟩
  have := (h4 r hr).2
  unfold rowV at this
  rw [List.all_eq_true] at this
  exact inB_t (this v hv)
end Go.Proofs.Ytgnmpjjlclbieaa
namespace Go.Proofs.Ytgnmpjjlclbieaa
open Go.RowKit
theorem sumT_le {m : Nat} : ∀ {l : Dbd}, (∀ x ∈ l, cTb x ≤ m) → (l.map cTb).sum ≤ m * l.length
  | [], _ => by simp
  | x :: l, h => by
    have h1 := h x (by simp)
    have h2 := sumT_le (l := l) fun y hy => h y (by simp [hy])
    rw [List.map_cons, List.sum_cons, List.length_cons, Nat.mul_add]
    omega
theorem sumL_le {m : Nat} : ∀ {l : List (List Int)}, (∀ x ∈ l, x.length ≤ m) → (l.map List.length).sum ≤ m * l.length
  | [], _ => by simp
  | x :: l, h => by
    have h1 := h x (by simp)
    have h2 := sumL_le (l := l) fun y hy => h y (by simp [hy])
    rw [List.map_cons, List.sum_cons, List.length_cons, Nat.mul_add]
    omega
theorem db_bd {d : Dbd} (h : dbB d = true) : BDb d := by
  obtain ⟨h1, h2, _⟩ := dbB_iff.1 h
  have h3 : ∀ x ∈ d, cTb x ≤ 100 := fun x hx => by
    have ht := h2 x hx
    have hs := rowsB_sz ht.rel
    have hc := ht.cnt
    have hn : x.1.size ≤ 4 := by
      have := ht.nm
      unfold nameB at this
      rw [Bool.and_eq_true] at this
      have := inB_t this.1
      omega
    have hr := sumL_le hs.rl
    unfold cTb
    omega
  have h4 := sumT_le h3
  exact ⟨⟨by omega, by omega⟩, fun x hx => (rowsB_sz (h2 x hx).rel).a⟩
theorem setD_bd {d : Dbd} (hd : BDb d) (name : ByteArray) (r : Rd) : BDb (setD d name r).1 := by
  unfold setD
  split
  · rename_i h
    exact db_bd h.2
  · exact hd
end Go.Proofs.Ytgnmpjjlclbieaa
