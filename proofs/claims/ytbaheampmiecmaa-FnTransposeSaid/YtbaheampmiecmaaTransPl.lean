/- Transposing twice; the product of two rows does not mind their order. Plain. -/
import Derived.Test.YtbaheampmiecmaaTrans
import Derived.Test.YtbaheampmiecmaaRatDot
namespace Go.Proofs.Ytbaheampmiecmaa

theorem newR_swap {a b c d : Int} : newR (a * b) (c * d) = newR (b * a) (d * c) := by rw [Int.mul_comm a b, Int.mul_comm c d]
theorem mulR_comm (p q : Rat2) : mulR p q = mulR q p := by
  unfold mulR
  rw [Bool.and_comm, newR_swap]
theorem dotG_comm : ∀ (a : Rat2) (xs ys : List Rat2), xs.length = ys.length → dotG a xs ys = dotG a ys xs
  | a, [], [], _ => rfl
  | a, x :: xs, y :: ys, h => by
    unfold dotG
    rw [mulR_comm]
    have ih := fun s => dotG_comm s xs ys (by simpa using h)
    simp only [ih]
theorem dotR_comm (xs ys : List Rat2) : dotR xs ys = dotR ys xs := by
  unfold dotR
  by_cases h : xs.length = ys.length
  · rw [if_pos h, if_pos h.symm, dotG_comm _ _ _ h]
  · rw [if_neg h, if_neg (fun e => h e.symm)]
theorem trR_t {d t : List (List Rat2)} (h : trR d = some t) : trOk d = true ∧ t = cols (row0 d).length d := by
  unfold trR at h
  split at h
  · rename_i hok
    injection h with h
    exact ⟨hok, h.symm⟩
  · cases h
theorem trOk_pos {d : List (List Rat2)} (h : trOk d = true) : 0 < d.length := by
  unfold trOk at h
  cases d with
  | nil => simp at h
  | cons x xs => simp
theorem trOk_allV {d : List (List Rat2)} (h : trOk d = true) {i : Nat} (hi : i < d.length) : allV d[i] = true := by
  unfold trOk at h
  rw [Bool.and_eq_true, List.all_eq_true] at h
  exact (rowB_t (h.2 _ (List.getElem_mem hi))).2
theorem row0_cols {n : Nat} {d : List (List Rat2)} (h : 0 < n) : row0 (cols n d) = colK 0 d := by
  rw [row0_eq (by simpa using h)]
  simp [cols]
theorem trR_trR {d t : List (List Rat2)} (h : trR d = some t) (h0 : 0 < (row0 d).length) : trR t = some d := by
  obtain ⟨hok, rfl⟩ := trR_t h
  have hpos := trOk_pos hok
  have hok2 : trOk (cols (row0 d).length d) = true := by
    unfold trOk
    rw [isEmpty_f (by simpa using h0), Bool.true_and, List.all_eq_true]
    intro r hr
    obtain ⟨k, hk, rfl⟩ := List.mem_map.1 hr
    rw [row0_cols h0]
    unfold rowB
    rw [Bool.and_eq_true]
    refine ⟨by simp, ?_⟩
    unfold allV
    rw [List.all_eq_true]
    intro x hx
    unfold colK at hx
    obtain ⟨y, hy, rfl⟩ := List.mem_map.1 hx
    obtain ⟨i, hi, rfl⟩ := List.getElem_of_mem hy
    have h1 := trOk_allV hok hi
    have h2 := trOk_mem hok hi
    unfold allV at h1
    rw [List.all_eq_true] at h1
    have hk' : k < d[i].length := by rw [h2]; simpa using hk
    rw [List.getD_eq_getElem?_getD, List.getElem?_eq_getElem hk']
    exact h1 _ (List.getElem_mem hk')
  unfold trR
  rw [if_pos hok2, row0_cols h0]
  congr 1
  apply List.ext_getElem
  · simp
  · intro i h1 h2
    simp only [cols, List.getElem_map, List.getElem_range]
    apply List.ext_getElem
    · simp [colK, trOk_mem hok h2]
    · intro k h3 h4
      simp [colK, List.getD_eq_getElem?_getD, h2, h4]
end Go.Proofs.Ytbaheampmiecmaa
