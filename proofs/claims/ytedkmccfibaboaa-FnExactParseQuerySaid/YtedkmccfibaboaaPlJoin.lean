/- Texts joined by a byte and divided at it: the one undoes the other. Plain. -/
import Derived.Test.YtedkmccfibaboaaJoinT
import Derived.Test.YtedkmccfibaboaaDec
namespace Go.Proofs.Ytedkmccfibaboaa
open Go.RowKit

theorem bl_app (a b : ByteArray) : bl (a ++ b) = bl a ++ bl b := by simp [bl]
def jl (c : UInt8) : List (List UInt8) → List UInt8
  | [] => []
  | [p] => p
  | p :: q :: ps => p ++ c :: jl c (q :: ps)
theorem spl_jl {c : UInt8} : ∀ {ps : List (List UInt8)}, ps ≠ [] → (∀ p ∈ ps, ∀ x ∈ p, x ≠ c) → spl c (jl c ps) = ps
  | [], h, _ => absurd rfl h
  | [p], _, h => by rw [jl]; exact spl_none (h p (by simp))
  | p :: q :: ps, _, h => by
    rw [jl, spl_two (h p (by simp)), spl_jl (ps := q :: ps) (by simp) (fun r hr => h r (List.mem_cons_of_mem _ hr))]
theorem jl_jh {c : UInt8} {p : List UInt8} : ∀ {L : List (List UInt8)}, L ≠ [] → jl c (jh p L) = p ++ jl c L
  | [], h => absurd rfl h
  | [q], _ => by simp [jh, jl]
  | q :: r :: L, _ => by simp [jh, jl]
theorem jl_spl {c : UInt8} : ∀ l : List UInt8, jl c (spl c l) = l
  | [] => by simp [spl, jl]
  | x :: l => by
    by_cases h : x = c
    · subst h
      rw [spl_sep]
      obtain ⟨q, L, e⟩ := List.exists_cons_of_ne_nil (spl_ne x l)
      rw [e, jl, ← e, jl_spl l]
      rfl
    · rw [spl_other h, jl_jh (spl_ne c l), jl_spl l]
      rfl
theorem joinF_pos {c : UInt8} : ∀ (ps : List ByteArray) (k : Nat) (acc : ByteArray), 0 < k → bl (joinF ⟨#[c]⟩ k acc ps) = bl acc ++ (ps.map fun p => c :: bl p).flatten
  | [], k, acc, _ => by simp [joinF]
  | p :: ps, k, acc, h => by
    rw [joinF, if_pos h, joinF_pos ps (k + 1) _ (by omega), bl_app, bl_app]
    simp
    rfl
theorem jl_flat {c : UInt8} (p : List UInt8) : ∀ ps : List (List UInt8), jl c (p :: ps) = p ++ (ps.map fun p => c :: p).flatten
  | [] => by simp [jl]
  | q :: ps => by rw [jl, jl_flat q ps]; simp
theorem joinF_jl {c : UInt8} (ps : List ByteArray) : bl (joinF ⟨#[c]⟩ 0 ⟨#[]⟩ ps) = jl c (ps.map bl) := by
  cases ps with
  | nil => rfl
  | cons p ps =>
    rw [joinF, if_neg (by omega), joinF_pos ps 1 _ (by omega), bl_app, List.map_cons, jl_flat, List.map_map]
    rfl
theorem splB_joinF {c : UInt8} {ps : List ByteArray} (h : ps ≠ []) (hc : ∀ p ∈ ps, ∀ x ∈ bl p, x ≠ c) : splB c (joinF ⟨#[c]⟩ 0 ⟨#[]⟩ ps) = ps := by
  unfold splB
  rw [joinF_jl, spl_jl (by simpa using h)]
  · rw [List.map_map]
    conv => rhs; rw [← List.map_id ps]
    rfl
  · intro p hp
    obtain ⟨q, hq, rfl⟩ := List.mem_map.1 hp
    exact hc q hq
theorem joinF_splB (c : UInt8) (s : ByteArray) : joinF ⟨#[c]⟩ 0 ⟨#[]⟩ (splB c s) = s := by
  apply bl_inj
  rw [joinF_jl]
  unfold splB
  rw [List.map_map]
  rw [show (bl ∘ bs) = id from rfl, List.map_id, jl_spl]
end Go.Proofs.Ytedkmccfibaboaa
