/- The neighbours of a variable: the plain way of it. -/
import Derived.Test.YtoffbconbgipjaaAsc
import Derived.Test.YtoffbconbgipjaaValidQ
import Derived.Test.YtoffbconbgipjaaFmtQ
namespace Go.Proofs.Ytoffbconbgipjaa
open Go.RowKit

def nbG (v : Int) : List Int → List At → List Int
  | acc, [] => acc
  | acc, a :: al => nbG v (if decide (v ∈ a.2) = true then uniL acc (avars 5 0 a.2) else acc) al
def nearP (v w : Int) (a : At) : Bool := decide (w ≠ v) && decide (v ∈ a.2) && decide (w ∈ a.2)
def nearS (ats : List At) (v w : Int) : Bool := ats.any (nearP v w)
def nbrs (d : Qd) (v : Int) : List Int := if vqB d = true then selF (nearS d.2.1 v) d.1.toNat 0 else []
theorem nbG_step {v : Int} {acc : List Int} {ats : List At} {k : Nat} (h : k < ats.length) : nbG v acc (ats.drop k) = nbG v (if decide (v ∈ ats[k].2) = true then uniL acc (avars 5 0 ats[k].2) else acc) (ats.drop (k + 1)) := by
  rw [List.drop_eq_getElem_cons h, nbG]
theorem nbG_end {v : Int} {acc : List Int} {ats : List At} {k : Nat} (h : ¬ k < ats.length) : nbG v acc (ats.drop k) = acc := by
  rw [List.drop_eq_nil_of_le (by omega), nbG]
theorem mem_nbG {v x : Int} : ∀ {ats : List At} {acc : List Int}, x ∈ nbG v acc ats ↔ x ∈ acc ∨ ∃ a ∈ ats, v ∈ a.2 ∧ x ∈ avars 5 0 a.2
  | [], acc => by simp [nbG]
  | a :: al, acc => by
    rw [nbG, mem_nbG (ats := al)]
    by_cases hv : v ∈ a.2
    · rw [if_pos (by simpa using hv), mem_uniL]
      constructor
      · rintro ((h | h) | ⟨b, hb, h1, h2⟩)
        · exact .inl h
        · exact .inr ⟨a, by simp, hv, h⟩
        · exact .inr ⟨b, by simp [hb], h1, h2⟩
      · rintro (h | ⟨b, hb, h1, h2⟩)
        · exact .inl (.inl h)
        · rcases List.mem_cons.1 hb with e | e
          · subst e; exact .inl (.inr h2)
          · exact .inr ⟨b, e, h1, h2⟩
    · rw [if_neg (by simpa using hv)]
      constructor
      · rintro (h | ⟨b, hb, h1, h2⟩)
        · exact .inl h
        · exact .inr ⟨b, by simp [hb], h1, h2⟩
      · rintro (h | ⟨b, hb, h1, h2⟩)
        · exact .inl h
        · rcases List.mem_cons.1 hb with e | e
          · subst e; exact absurd h1 hv
          · exact .inr ⟨b, e, h1, h2⟩
theorem asc_nbG {v : Int} : ∀ {ats : List At} {acc : List Int}, Asc acc → Asc (nbG v acc ats)
  | [], _, h => h
  | a :: al, acc, h => by
    rw [nbG]
    split
    · exact asc_nbG (asc_uniL h)
    · exact asc_nbG h
theorem vqB_vars {d : Qd} (h : vqB d = true) : 1 ≤ d.1 ∧ d.1 ≤ 5 ∧ ∀ a ∈ d.2.1, ∀ v ∈ a.2, 0 ≤ v ∧ v < d.1 := by
  unfold vqB at h
  simp only [Bool.and_eq_true, List.all_eq_true] at h
  obtain ⟨⟨⟨⟨h1, _⟩, _⟩, h4⟩, _⟩ := h
  have h1 := inB_t h1
  refine ⟨h1.1, h1.2, fun a ha v hv => ?_⟩
  have h5 := h4 a ha
  unfold atomB at h5
  simp only [Bool.and_eq_true, List.all_eq_true] at h5
  have := inB_t (h5.2 v hv)
  omega
theorem nb_eq {d : Qd} {v : Int} (h : vqB d = true) : strike v (nbG v [] d.2.1) = nbrs d v := by
  obtain ⟨h1, h2, h3⟩ := vqB_vars h
  unfold nbrs
  rw [if_pos h]
  refine asc_ext (asc_strike (asc_nbG asc_nil)) (asc_selF _ _) fun x => ?_
  rw [mem_strike, mem_nbG, mem_selF]
  unfold nearS nearP
  simp only [List.any_eq_true, Bool.and_eq_true, decide_eq_true_eq, mem_avars]
  constructor
  · rintro ⟨h4 | ⟨a, ha, h5, h6, h7, h8⟩, h9⟩
    · simp at h4
    · have := h3 a ha x h8
      exact ⟨by omega, by omega, a, ha, ⟨h9, h5⟩, h8⟩
  · rintro ⟨h4, h5, a, ha, ⟨h6, h7⟩, h8⟩
    exact ⟨.inr ⟨a, ha, h7, by omega, by omega, h8⟩, h6⟩
theorem nbrs_length (d : Qd) (v : Int) : (nbrs d v).length ≤ 5 := by
  unfold nbrs
  split
  · rename_i h
    obtain ⟨h1, h2, _⟩ := vqB_vars h
    have := selF_length (p := nearS d.2.1 v) d.1.toNat 0
    omega
  · simp
theorem nbG_length {v : Int} : ∀ {ats : List At} {acc : List Int}, (nbG v acc ats).length ≤ acc.length + 5 * ats.length
  | [], acc => by simp [nbG]
  | a :: al, acc => by
    rw [nbG]
    have h1 := avars_length 5 0 a.2
    have h2 := uniL_length (avars 5 0 a.2) acc
    split
    · have := nbG_length (v := v) (ats := al) (acc := uniL acc (avars 5 0 a.2))
      rw [List.length_cons]; omega
    · have := nbG_length (v := v) (ats := al) (acc := acc)
      rw [List.length_cons]; omega
end Go.Proofs.Ytoffbconbgipjaa
