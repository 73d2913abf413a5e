/- Atoms removed one by one, each attached to another: the plain way of it. No program in it. -/
import Derived.Test.YtoffbconbgipjaaAtomsN
namespace Go.Proofs.Ytoffbconbgipjaa
open Go.RowKit

/-- for all of f numbers from k on -/
def allF (p : Nat → Bool) : Nat → Nat → Bool
  | 0, _ => true
  | f + 1, k => p k && allF p f (k + 1)
/-- the first of f numbers from k on -/
def findF (p : Nat → Bool) : Nat → Nat → Option Nat
  | 0, _ => none
  | f + 1, k => if p k = true then some k else findF p f (k + 1)
theorem allF_step {p : Nat → Bool} {n k : Nat} (h : k < n) : allF p (n - k) k = (p k && allF p (n - (k + 1)) (k + 1)) := by
  rw [show n - k = (n - (k + 1)) + 1 by omega, allF]
theorem allF_end {p : Nat → Bool} {n k : Nat} (h : ¬ k < n) : allF p (n - k) k = true := by
  rw [show n - k = 0 by omega, allF]
theorem findF_step {p : Nat → Bool} {n k : Nat} (h : k < n) : findF p (n - k) k = if p k = true then some k else findF p (n - (k + 1)) (k + 1) := by
  rw [show n - k = (n - (k + 1)) + 1 by omega, findF]
theorem findF_end {p : Nat → Bool} {n k : Nat} (h : ¬ k < n) : findF p (n - k) k = none := by
  rw [show n - k = 0 by omega, findF]
theorem allF_iff {p : Nat → Bool} : ∀ (f k : Nat), allF p f k = true ↔ ∀ j, k ≤ j → j < k + f → p j = true
  | 0, k => by simp [allF]; omega
  | f + 1, k => by
    rw [allF, Bool.and_eq_true, allF_iff f (k + 1)]
    constructor
    · rintro ⟨h1, h2⟩ j hj hj2
      by_cases e : j = k
      · subst e; exact h1
      · exact h2 j (by omega) (by omega)
    · intro h
      exact ⟨h k (by omega) (by omega), fun j h1 h2 => h j (by omega) (by omega)⟩
theorem findF_some {p : Nat → Bool} {i : Nat} : ∀ (f k : Nat), findF p f k = some i → k ≤ i ∧ i < k + f ∧ p i = true
  | 0, k, h => by simp [findF] at h
  | f + 1, k, h => by
    rw [findF] at h
    split at h
    · rename_i hp
      injection h with h
      subst h
      exact ⟨by omega, by omega, hp⟩
    · have := findF_some f (k + 1) h
      exact ⟨by omega, by omega, this.2.2⟩
theorem findF_congr {p q : Nat → Bool} : ∀ (f k : Nat), (∀ j, k ≤ j → j < k + f → p j = q j) → findF p f k = findF q f k
  | 0, _, _ => rfl
  | f + 1, k, h => by
    rw [findF, findF, h k (by omega) (by omega), findF_congr f (k + 1) fun j h1 h2 => h j (by omega) (by omega)]

def vof (ats : List At) (j : Nat) : List Int := (ats.getD j (⟨#[]⟩, [])).2
theorem vof_get {ats : List At} {j : Nat} (h : j < ats.length) : ats[j].2 = vof ats j := by
  unfold vof; rw [List.getD_eq_getElem?_getD, List.getElem?_eq_getElem h]; rfl
/-- an atom other than i, not yet struck, in which v occurs -/
def blk (ats : List At) (gone : List Bool) (i : Nat) (v : Int) (j : Nat) : Bool := decide (j ≠ i) && !gone.getD j true && decide (v ∈ vof ats j)
def okV (ats : List At) (gone : List Bool) (i k : Nat) (v : Int) : Bool := allF (fun j => !blk ats gone i v j || decide (v ∈ vof ats k)) ats.length 0
def earOK (ats : List At) (gone : List Bool) (i k : Nat) : Bool := (vof ats i).all (okV ats gone i k)
def canK (ats : List At) (gone : List Bool) (i k : Nat) : Bool := decide (k ≠ i) && !gone.getD k true && earOK ats gone i k
def ear (ats : List At) (gone : List Bool) (i : Nat) : Option Nat := findF (canK ats gone i) ats.length 0
def canI (ats : List At) (gone : List Bool) (i : Nat) : Bool := !gone.getD i true && (ear ats gone i).isSome
def stepG (ats : List At) (gone : List Bool) : Option Nat := findF (canI ats gone) ats.length 0
def oInt? (o : Option Nat) : Int := match o with | some k => k | none => -1
def gyo (ats : List At) : Nat → List Int → List Int → List Bool → List Int × List Int
  | 0, rem, par, _ => (rem, par)
  | f + 1, rem, par, gone => match stepG ats gone with
    | none => (rem, par)
    | some i => gyo ats f (rem ++ [(i : Int)]) (par.set i (oInt? (ear ats gone i))) (gone.set i true)
def leftN (gone : List Bool) : Nat := gone.countP (! ·)
def gyoQ (ats : List At) : List Int × List Int := gyo ats ats.length [] (List.replicate ats.length (-1)) (List.replicate ats.length false)
theorem leftN_set : ∀ {gone : List Bool} {i : Nat}, gone.getD i true = false → leftN gone = leftN (gone.set i true) + 1
  | [], i, h => by simp at h
  | b :: bs, 0, h => by
    simp at h
    subst h
    simp [leftN]
  | b :: bs, i + 1, h => by
    have := leftN_set (gone := bs) (i := i) (by simpa using h)
    simp only [leftN, List.countP_cons, List.set_cons_succ] at this ⊢
    omega
theorem stepG_some {ats : List At} {gone : List Bool} {i : Nat} (h : stepG ats gone = some i) : i < ats.length ∧ gone.getD i true = false ∧ ∃ k, ear ats gone i = some k ∧ k < ats.length := by
  obtain ⟨_, h1, h2⟩ := findF_some _ _ h
  unfold canI at h2
  simp only [Bool.and_eq_true, Bool.not_eq_true', Option.isSome_iff_exists] at h2
  obtain ⟨h3, k, hk⟩ := h2
  have := findF_some _ _ hk
  exact ⟨by omega, h3, k, hk, by omega⟩
theorem gyo_none {ats : List At} {gone : List Bool} {rem par : List Int} (h : stepG ats gone = none) : ∀ f, gyo ats f rem par gone = (rem, par)
  | 0 => rfl
  | f + 1 => by rw [gyo, h]
theorem gyo_some {ats : List At} {gone : List Bool} {rem par : List Int} {i k : Nat} (h : stepG ats gone = some i) (hk : ear ats gone i = some k) :
    gyo ats (leftN gone) rem par gone = gyo ats (leftN (gone.set i true)) (rem ++ [(i : Int)]) (par.set i (k : Int)) (gone.set i true) := by
  obtain ⟨_, h2, _⟩ := stepG_some h
  rw [leftN_set h2, gyo, h]
  show gyo _ _ _ (par.set i (oInt? (ear ats gone i))) _ = _
  rw [hk]
  rfl
theorem leftN_rep (n : Nat) : leftN (List.replicate n false) = n := by simp [leftN, List.countP_replicate]
theorem gyo_len {ats : List At} : ∀ (f : Nat) (rem par : List Int) (gone : List Bool), (gyo ats f rem par gone).1.length ≤ rem.length + f ∧ (gyo ats f rem par gone).2.length = par.length
  | 0, rem, par, gone => by simp [gyo]
  | f + 1, rem, par, gone => by
    rw [gyo]
    split
    · exact ⟨by simp, rfl⟩
    · rename_i i _
      have := gyo_len (ats := ats) f (rem ++ [(i : Int)]) (par.set i (oInt? (ear ats gone i))) (gone.set i true)
      simp at this
      exact ⟨by omega, this.2⟩
/-! the reference's test -/
def okS (ats : List At) (gone : List Bool) (i k : Nat) (v : Nat) : Bool := !decide ((v : Int) ∈ vof ats i) || !(!allF (fun j => !blk ats gone i v j) ats.length 0) || decide ((v : Int) ∈ vof ats k)
theorem earOK_spec {ats : List At} {gone : List Bool} {i k n : Nat} (h : ∀ v ∈ vof ats i, 0 ≤ v ∧ v < n) : allF (okS ats gone i k) n 0 = earOK ats gone i k := by
  rw [Bool.eq_iff_iff, allF_iff]
  unfold earOK
  rw [List.all_eq_true]
  constructor
  · intro h1 v hv
    have hb := h v hv
    obtain ⟨m, rfl⟩ : ∃ m : Nat, v = m := ⟨v.toNat, by omega⟩
    have h2 := h1 m (by omega) (by omega)
    unfold okS at h2
    unfold okV
    rw [allF_iff]
    intro j hj hj2
    simp only [hv, decide_true, Bool.not_true, Bool.false_or, Bool.not_not, Bool.or_eq_true, allF_iff] at h2
    rcases h2 with h2 | h2
    · rw [h2 j hj hj2]; rfl
    · rw [h2]; simp
  · intro h1 v _ _
    unfold okS
    by_cases hv : (v : Int) ∈ vof ats i
    · have h2 := h1 v hv
      unfold okV at h2
      rw [allF_iff] at h2
      by_cases hk : (v : Int) ∈ vof ats k
      · simp [hk]
      · simp only [hk, decide_false, Bool.or_false] at h2
        simp only [hv, decide_true, Bool.not_true, Bool.false_or, Bool.not_not, hk, decide_false, Bool.or_false, allF_iff]
        exact h2
    · simp [hv]
end Go.Proofs.Ytoffbconbgipjaa
