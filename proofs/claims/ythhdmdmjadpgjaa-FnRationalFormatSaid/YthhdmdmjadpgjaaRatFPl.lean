/- Rationals as text and back: plain laws. -/
import Derived.Test.YthhdmdmjadpgjaaPlJoin
import Derived.Test.YthhdmdmjadpgjaaRatTexts
import Derived.Test.YthhdmdmjadpgjaaParseRat2
namespace Go.Proofs.Ythhdmdmjadpgjaa
open Go.RowKit

theorem pRat_back (r : Int × Int) : pRat (ratText r) = if isVR r = true then some r else none := by
  by_cases h : isVR r = true
  · rw [if_pos h, pRat_text h]
  · rw [if_neg h]
    cases e : pRat (ratText r) with
    | none => rfl
    | some q =>
      obtain ⟨h1, h2⟩ := pRat_some e
      have := (ratText_size h1).1
      rw [h2] at this
      unfold ratText at this
      rw [if_neg h] at this
      exact absurd this (by decide)
theorem decI_32 (z : Int) : ∀ x ∈ bl (decI z), x ≠ 32 := by
  intro x hx
  unfold decI at hx
  split at hx
  · rw [bl_bs] at hx
    rcases List.mem_cons.1 hx with e | e
    · subst e; decide
    · exact isD_ne (dec_isD _ x e) (by decide)
  · rw [bl_bs] at hx
    exact isD_ne (dec_isD _ x hx) (by decide)
theorem ratText_32 (r : Int × Int) : ∀ x ∈ bl (ratText r), x ≠ 32 := by
  intro x hx
  by_cases h : isVR r = true
  · by_cases h1 : r.2 = 1
    · rw [ratText_one h h1] at hx
      exact decI_32 _ x hx
    · rw [ratText_two h h1] at hx
      rcases List.mem_append.1 hx with e | e
      · exact decI_32 _ x e
      · rcases List.mem_cons.1 e with e | e
        · subst e; decide
        · exact decI_32 _ x e
  · unfold ratText at hx
    rw [if_neg h] at hx
    exact absurd hx (by simp [bl])
theorem ratsG_back : ∀ (l acc : List (Int × Int)), (∀ r ∈ l, isVR r = true) → ratsG acc (l.map ratText) = some (acc ++ l)
  | [], acc, _ => by simp [ratsG]
  | r :: l, acc, h => by
    rw [List.map_cons, ratsG, pRat_text (h r (by simp))]
    simp only
    rw [ratsG_back l _ fun x hx => h x (by simp [hx])]
    simp
theorem rats_valid {l : List (Int × Int)} (h : (ratsF 0 ⟨#[]⟩ l).size ≠ 0) : ∀ r ∈ l, isVR r = true := by
  intro r hr
  cases hv : isVR r with
  | true => rfl
  | false =>
    rw [ratsF_bad l 0 _ ⟨r, hr, hv⟩] at h
    exact absurd rfl h
theorem rats_back {l : List (Int × Int)} (h : (ratsF 0 ⟨#[]⟩ l).size ≠ 0) : pRats (ratsF 0 ⟨#[]⟩ l) = some l := by
  have hv := rats_valid h
  have hl : l ≠ [] := by
    intro e
    subst e
    exact h rfl
  unfold pRats
  rw [if_neg h, ratsF_join l 0 _ hv, splB_joinF (by simpa using hl), ratsG_back l [] hv]
  · simp
  · intro p hp
    obtain ⟨q, _, rfl⟩ := List.mem_map.1 hp
    exact ratText_32 q
theorem ratsG_fwd : ∀ (ws : List ByteArray) (acc k : List (Int × Int)), ratsG acc ws = some k → ∃ l, k = acc ++ l ∧ l.map ratText = ws ∧ ∀ r ∈ l, isVR r = true
  | [], acc, k, h => by
    simp only [ratsG] at h
    injection h with h
    exact ⟨[], by simp [h], rfl, by simp⟩
  | p :: ws, acc, k, h => by
    rw [ratsG] at h
    cases e : pRat p with
    | none => rw [e] at h; cases h
    | some r =>
      rw [e] at h
      obtain ⟨l, h1, h2, h3⟩ := ratsG_fwd ws _ k h
      obtain ⟨h4, h5⟩ := pRat_some e
      refine ⟨r :: l, by simp [h1], by simp [h2, h5], ?_⟩
      intro x hx
      rcases List.mem_cons.1 hx with e | e
      · subst e; exact h4
      · exact h3 x e
theorem rats_fwd {s : ByteArray} {k : List (Int × Int)} (h : pRats s = some k) : ratsF 0 ⟨#[]⟩ k = s := by
  unfold pRats at h
  split at h
  · rename_i h0
    injection h with h
    subst h
    apply bl_inj
    rw [size_zero h0]
    rfl
  · obtain ⟨l, h1, h2, h3⟩ := ratsG_fwd _ _ _ h
    rw [List.nil_append] at h1
    subst h1
    rw [ratsF_join k 0 _ h3, h2, joinF_splB]
end Go.Proofs.Ythhdmdmjadpgjaa
