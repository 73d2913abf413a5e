/- Ascending lists: one number put in, two united, numbers struck; the lists are told by their members. No program in it. -/
import Derived.Test.YtoffbconbgipjaaCommon
namespace Go.Proofs.Ytoffbconbgipjaa
open Go.RowKit

/-- the place of n in an ascending list: the first that is not less -/
def insK (n : Int) : List Int → Nat
  | [] => 0
  | x :: xs => if x < n then insK n xs + 1 else 0
def insS (n : Int) (l : List Int) : List Int := if (l.drop (insK n l)).head? = some n then l else l.take (insK n l) ++ [n] ++ l.drop (insK n l)
def uniL (a b : List Int) : List Int := b.foldl (fun acc n => insS n acc) a
def strike (n : Int) (l : List Int) : List Int := l.filter fun x => decide (x ≠ n)
theorem insK_step {n : Int} {l : List Int} {k : Nat} (h : k < l.length) (hx : l[k] < n) : k + insK n (l.drop k) = k + 1 + insK n (l.drop (k + 1)) := by
  rw [List.drop_eq_getElem_cons h, insK, if_pos hx]
  omega
theorem insK_hit {n : Int} {l : List Int} {k : Nat} (h : k < l.length) (hx : ¬ l[k] < n) : k + insK n (l.drop k) = k := by
  rw [List.drop_eq_getElem_cons h, insK, if_neg hx]
  omega
theorem insK_end {n : Int} {l : List Int} {k : Nat} (h : ¬ k < l.length) : k + insK n (l.drop k) = k := by
  rw [List.drop_eq_nil_of_le (by omega), insK]
  omega
theorem uniL_step {a b : List Int} {k : Nat} (h : k < b.length) : uniL a (b.take (k + 1)) = insS b[k] (uniL a (b.take k)) := by
  unfold uniL
  rw [List.take_succ_eq_append_getElem h, List.foldl_append]
  rfl
def insR (n : Int) : List Int → List Int
  | [] => [n]
  | x :: xs => if x < n then x :: insR n xs else if x = n then x :: xs else n :: x :: xs
theorem insS_eq (n : Int) : ∀ l, insS n l = insR n l
  | [] => rfl
  | x :: xs => by
    have ih := insS_eq n xs
    unfold insS at ih
    unfold insS insK insR
    by_cases h : x < n
    · rw [if_pos h, if_pos h, List.drop_succ_cons, List.take_succ_cons, ← ih]
      split <;> simp
    · rw [if_neg h, if_neg h]
      by_cases h2 : x = n
      · simp [h2]
      · simp [h2]
theorem insS_length (n : Int) (l : List Int) : (insS n l).length ≤ l.length + 1 := by
  unfold insS
  split
  · omega
  · simp only [List.length_append, List.length_take, List.length_drop, List.length_cons, List.length_nil]; omega
theorem uniL_length : ∀ (b a : List Int), (uniL a b).length ≤ a.length + b.length
  | [], a => by simp [uniL]
  | x :: b, a => by
    have h1 := uniL_length b (insS x a)
    have h2 := insS_length x a
    have e : uniL a (x :: b) = uniL (insS x a) b := rfl
    rw [e, List.length_cons]
    omega
def Asc (l : List Int) : Prop := l.Pairwise (· < ·)
theorem mem_insR {n x : Int} : ∀ {l : List Int}, x ∈ insR n l ↔ x = n ∨ x ∈ l
  | [] => by simp [insR]
  | y :: ys => by
    unfold insR
    split
    · rw [List.mem_cons, mem_insR (l := ys), List.mem_cons]
      constructor
      · rintro (h | h | h)
        · exact .inr (.inl h)
        · exact .inl h
        · exact .inr (.inr h)
      · rintro (h | h | h)
        · exact .inr (.inl h)
        · exact .inl h
        · exact .inr (.inr h)
    · split
      · rename_i h; subst h
        simp
      · simp
theorem asc_insR {n : Int} : ∀ {l : List Int}, Asc l → Asc (insR n l)
  | [], _ => by simp [insR, Asc]
  | y :: ys, h => by
    have h' := List.pairwise_cons.1 h
    unfold insR
    split
    · rename_i hy
      refine List.pairwise_cons.2 ⟨fun z hz => ?_, asc_insR h'.2⟩
      rcases mem_insR.1 hz with e | e
      · omega
      · exact h'.1 z e
    · split
      · exact h
      · refine List.pairwise_cons.2 ⟨fun z hz => ?_, h⟩
        rcases List.mem_cons.1 hz with e | e
        · omega
        · have := h'.1 z e
          omega
theorem mem_insS {n x : Int} {l : List Int} : x ∈ insS n l ↔ x = n ∨ x ∈ l := by rw [insS_eq]; exact mem_insR
theorem asc_insS {n : Int} {l : List Int} (h : Asc l) : Asc (insS n l) := by rw [insS_eq]; exact asc_insR h
theorem mem_uniL {x : Int} : ∀ {b a : List Int}, x ∈ uniL a b ↔ x ∈ a ∨ x ∈ b
  | [], a => by simp [uniL]
  | y :: b, a => by
    have e : uniL a (y :: b) = uniL (insS y a) b := rfl
    rw [e, mem_uniL, mem_insS, List.mem_cons]
    constructor
    · rintro ((h | h) | h)
      · exact .inr (.inl h)
      · exact .inl h
      · exact .inr (.inr h)
    · rintro (h | h | h)
      · exact .inl (.inr h)
      · exact .inl (.inl h)
      · exact .inr h
theorem asc_uniL : ∀ {b a : List Int}, Asc a → Asc (uniL a b)
  | [], _, h => h
  | y :: b, a, h => by
    have e : uniL a (y :: b) = uniL (insS y a) b := rfl
    rw [e]
    exact asc_uniL (asc_insS h)
theorem asc_nil : Asc [] := List.Pairwise.nil
theorem asc_filter {l : List Int} (p : Int → Bool) (h : Asc l) : Asc (l.filter p) := List.Pairwise.filter p h
theorem asc_strike {n : Int} {l : List Int} (h : Asc l) : Asc (strike n l) := asc_filter _ h
theorem mem_strike {n x : Int} {l : List Int} : x ∈ strike n l ↔ x ∈ l ∧ x ≠ n := by unfold strike; simp
/-- two ascending lists with the same members are the same -/
theorem asc_ext : ∀ {a b : List Int}, Asc a → Asc b → (∀ x, x ∈ a ↔ x ∈ b) → a = b
  | [], [], _, _, _ => rfl
  | [], y :: b, _, _, h => by have := (h y).2 (by simp); simp at this
  | x :: a, [], _, _, h => by have := (h x).1 (by simp); simp at this
  | x :: a, y :: b, ha, hb, h => by
    have ha' := List.pairwise_cons.1 ha
    have hb' := List.pairwise_cons.1 hb
    have hxy : x = y := by
      have h1 := (h x).1 (by simp)
      have h2 := (h y).2 (by simp)
      rcases List.mem_cons.1 h1 with e | e
      · exact e
      · rcases List.mem_cons.1 h2 with e2 | e2
        · exact e2.symm
        · have := hb'.1 x e
          have := ha'.1 y e2
          omega
    subst hxy
    congr 1
    refine asc_ext ha'.2 hb'.2 fun z => ?_
    have hz := h z
    rw [List.mem_cons, List.mem_cons] at hz
    constructor
    · intro hm
      rcases hz.1 (.inr hm) with e | e
      · have := ha'.1 z hm; omega
      · exact e
    · intro hm
      rcases hz.2 (.inr hm) with e | e
      · have := hb'.1 z hm; omega
      · exact e
theorem asc_avars : ∀ (f k : Nat) (xs : List Int), Asc (avars f k xs)
  | 0, _, _ => asc_nil
  | f + 1, k, xs => by
    have ih := asc_avars f (k + 1) xs
    unfold avars
    split
    · refine List.pairwise_cons.2 ⟨fun z hz => ?_, ih⟩
      have := (mem_avars f (k + 1) xs z).1 hz
      omega
    · exact ih
/-- the numbers from k on, f of them, of which p holds -/
def selF (p : Int → Bool) : Nat → Nat → List Int
  | 0, _ => []
  | f + 1, k => if p k = true then (k : Int) :: selF p f (k + 1) else selF p f (k + 1)
theorem selF_step {p : Int → Bool} {n k : Nat} (h : k < n) : selF p (n - k) k = if p k = true then (k : Int) :: selF p (n - (k + 1)) (k + 1) else selF p (n - (k + 1)) (k + 1) := by
  rw [show n - k = (n - (k + 1)) + 1 by omega, selF]
theorem mem_selF {p : Int → Bool} {x : Int} : ∀ (f k : Nat), x ∈ selF p f k ↔ (k : Int) ≤ x ∧ x < k + f ∧ p x = true
  | 0, k => by simp [selF]; omega
  | f + 1, k => by
    have ih := mem_selF (p := p) (x := x) f (k + 1)
    unfold selF
    split
    · rename_i h
      rw [List.mem_cons, ih]
      constructor
      · rintro (rfl | ⟨h1, h2, h3⟩)
        · exact ⟨by omega, by omega, h⟩
        · exact ⟨by omega, by omega, h3⟩
      · rintro ⟨h1, h2, h3⟩
        by_cases e : x = k
        · exact .inl e
        · exact .inr ⟨by omega, by omega, h3⟩
    · rename_i h
      rw [ih]
      constructor
      · rintro ⟨h1, h2, h3⟩
        exact ⟨by omega, by omega, h3⟩
      · rintro ⟨h1, h2, h3⟩
        refine ⟨?_, by omega, h3⟩
        have : x ≠ k := by rintro rfl; exact h h3
        omega
theorem asc_selF {p : Int → Bool} : ∀ (f k : Nat), Asc (selF p f k)
  | 0, _ => asc_nil
  | f + 1, k => by
    have ih := asc_selF (p := p) f (k + 1)
    unfold selF
    split
    · refine List.pairwise_cons.2 ⟨fun z hz => ?_, ih⟩
      have := (mem_selF f (k + 1)).1 hz
      omega
    · exact ih
theorem selF_length {p : Int → Bool} : ∀ (f k : Nat), (selF p f k).length ≤ f
  | 0, _ => by simp [selF]
  | f + 1, k => by
    have := selF_length (p := p) f (k + 1)
    unfold selF
    split <;> simp <;> omega
end Go.Proofs.Ytoffbconbgipjaa
