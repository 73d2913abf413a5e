/- The size of what the connected components are. -/
import Derived.Test.YtoffbconbgipjaaSCComp
import Derived.Test.YtoffbconbgipjaaRowsD
namespace Go.Proofs.Ytoffbconbgipjaa
open Go.RowKit
theorem ccO_bd {mk : List Int} {n : Nat} : ∀ (f k : Nat) (out : List (List Int)), (ccO mk n f k out).length ≤ out.length + f ∧ ((ccO mk n f k out).map List.length).sum ≤ (out.map List.length).sum + n * f
  | 0, _, out => by simp [ccO]
  | f + 1, k, out => by
    rw [ccO]
    have h := ccO_bd (mk := mk) (n := n) f (k + 1) (if 0 < (partS mk n k).length then out ++ [partS mk n k] else out)
    have hp : (partS mk n k).length ≤ n := selF_length _ _
    rw [Nat.mul_succ]
    split at h
    · rename_i hc
      rw [if_pos hc]
      simp at h
      omega
    · rename_i hc
      rw [if_neg hc]
      omega
theorem ccQ_bd (d : Qd) : BSS (ccQ d) := by
  by_cases h : vqB d = true
  · rw [← ccQ_spec h]
    obtain ⟨g1, g2, _⟩ := vqB_vars h
    have hn : d.1.toNat ≤ 5 := by omega
    have := ccO_bd (mk := sweeps (nbrs d) d.1.toNat d.1.toNat (idm d.1.toNat)) (n := d.1.toNat) d.1.toNat 0 []
    have h2 : d.1.toNat * d.1.toNat ≤ 5 * 5 := Nat.mul_le_mul hn hn
    simp only [List.length_nil, List.map_nil, List.sum_nil] at this
    exact ⟨by omega, by omega⟩
  · unfold ccQ
    rw [if_neg h]
    exact ⟨by simp, by simp⟩
end Go.Proofs.Ytoffbconbgipjaa
