/- Which parents make a tree: the program's way and the reference's give the same. No program in it. -/
import Derived.Test.YtoffbconbgipjaaForest
import Derived.Test.YtoffbconbgipjaaGyo
import Derived.Test.YtoffbconbgipjaaBasic
namespace Go.Proofs.Ytoffbconbgipjaa
open Go.RowKit

/-- from 'at' up the parents, f steps at most: inside the bounds all the way, and at the top -/
def clB (ps : List Int) : Nat → Int → Bool
  | 0, a => decide (a < 0)
  | f + 1, a => if a < 0 then true else inB (ps.getD a.toNat 0) (-1) ((ps.length : Int) - 1) && clB ps f (ps.getD a.toNat 0)
def rootsG : Int → List Int → Int
  | r, [] => r
  | r, p :: ps => rootsG (if p < 0 then r + 1 else r) ps
def upB (ps : List Int) (i : Nat) : Bool := inB (ps.getD i 0) (-1) ((ps.length : Int) - 1) && clB ps (ps.length + 1) i
def treeB (ps : List Int) : Bool := allF (upB ps) ps.length 0 && decide (rootsG 0 ps = 1)
/-- the reference's path -/
def pth (ps : List Int) : Nat → Int → List Int
  | 0, _ => []
  | f + 1, k => if inB k 0 ((ps.length : Int) - 1) = true then k :: pth ps f (ps.getD k.toNat 0) else []
def pathB (ps : List Int) (i : Nat) : Bool := decide ((pth ps (ps.length + 1) i).length ≤ ps.length) && decide ((pth ps (ps.length + 1) i).getD ((pth ps (ps.length + 1) i).length - 1) 0 = jroot 0 (-1) ps)
def treeS (ps : List Int) : Bool := decide (0 ≤ jroot 0 (-1) ps) && allF (pathB ps) ps.length 0
def allLists {α : Type} (al : List α) : Nat → List (List α)
  | 0 => [[]]
  | n + 1 => al.flatMap fun a => (allLists al n).map (a :: ·)
theorem mem_allLists {α : Type} {al : List α} : ∀ {l : List α}, (∀ x ∈ l, x ∈ al) → l ∈ allLists al l.length
  | [], _ => by simp [allLists]
  | x :: l, h => by
    have ih := mem_allLists (l := l) fun y hy => h y (by simp [hy])
    rw [List.length_cons, allLists, List.mem_flatMap]
    exact ⟨x, h x (by simp), List.mem_map.2 ⟨l, ih, rfl⟩⟩
def chkT (al : List Int) (n : Nat) : Bool := (allLists al n).all fun ps => treeB ps == treeS ps
theorem chkT1 : chkT [-1, 0] 1 = true := by decide +kernel
theorem chkT2 : chkT [-1, 0, 1] 2 = true := by decide +kernel
theorem chkT3 : chkT [-1, 0, 1, 2] 3 = true := by decide +kernel
theorem chkT4 : chkT [-1, 0, 1, 2, 3] 4 = true := by decide +kernel
theorem jroot_at : ∀ (xs : List Int) (i : Nat) (root : Int), 0 ≤ jroot i root xs → 0 ≤ root ∧ jroot i root xs = root ∧ (∀ x ∈ xs, x ≠ -1) ∨ root < 0 ∧ ∃ j, j < xs.length ∧ jroot i root xs = (i + j : Nat) ∧ xs.getD j 0 = -1
  | [], i, root, h => by
    exact .inl ⟨h, rfl, by simp⟩
  | x :: xs, i, root, h => by
    unfold jroot at h ⊢
    split at h
    · rename_i hx
      subst hx
      rw [if_pos rfl]
      split at h
      · omega
      · rename_i hr
        rw [if_neg hr]
        rcases jroot_at xs (i + 1) i h with ⟨h1, h2, h3⟩ | ⟨h1, _⟩
        · exact .inr ⟨by omega, 0, by simp, by rw [h2]; simp, rfl⟩
        · omega
    · rename_i hx
      rw [if_neg hx]
      rcases jroot_at xs (i + 1) root h with ⟨h1, h2, h3⟩ | ⟨h1, j, hj, h2, h3⟩
      · exact .inl ⟨h1, h2, fun y hy => by rcases List.mem_cons.1 hy with e | e; · rw [e]; exact hx
                                           · exact h3 y e⟩
      · exact .inr ⟨h1, j + 1, by simpa using hj, by rw [h2]; congr 1; omega, by simpa using h3⟩
theorem jroot_lo : ∀ (xs : List Int) (i : Nat) (root : Int), -1 ≤ root → -1 ≤ jroot i root xs
  | [], _, _, h => h
  | x :: xs, i, root, h => by
    unfold jroot
    split
    · split
      · omega
      · exact jroot_lo xs (i + 1) i (by omega)
    · exact jroot_lo xs (i + 1) root h
theorem out_false {ps : List Int} {i : Nat} (hi : i < ps.length) (h : ¬ (-1 ≤ ps.getD i 0 ∧ ps.getD i 0 ≤ (ps.length : Int) - 1)) : treeB ps = false ∧ treeS ps = false := by
  constructor
  · have : allF (upB ps) ps.length 0 = false := by
      rw [← Bool.not_eq_true, allF_iff]
      intro hc
      have := hc i (by omega) (by omega)
      unfold upB at this
      rw [Bool.and_eq_true] at this
      exact h (inB_t this.1)
    unfold treeB
    rw [this]; rfl
  · rw [← Bool.not_eq_true]
    unfold treeS
    rw [Bool.and_eq_true, allF_iff, decide_eq_true_eq]
    rintro ⟨h1, h2⟩
    have h3 := h2 i (by omega) (by omega)
    unfold pathB at h3
    rw [Bool.and_eq_true, decide_eq_true_eq, decide_eq_true_eq] at h3
    have hp : pth ps (ps.length + 1) (i : Int) = [(i : Int)] := by
      rw [pth, if_pos (by unfold inB; rw [decide_eq_true_eq]; omega), show ((i : Int)).toNat = i by omega]
      congr 1
      cases hn : ps.length with
      | zero => omega
      | succ n =>
        rw [pth, if_neg]
        intro hb
        have := inB_t hb
        omega
    rw [hp] at h3
    rcases jroot_at ps 0 (-1) h1 with ⟨h4, _⟩ | ⟨_, j, hj, h5, h6⟩
    · omega
    · have h7 : ((i : Int)) = (j : Nat) := by
        have := h3.2
        rw [h5] at this
        simpa using this
      have : i = j := by omega
      subst this
      omega
theorem tree_eq {ps : List Int} (h1 : 1 ≤ ps.length) (h2 : ps.length ≤ 4) : treeB ps = treeS ps := by
  by_cases h : ∀ x ∈ ps, -1 ≤ x ∧ x ≤ (ps.length : Int) - 1
  · have key : ∀ al : List Int, chkT al ps.length = true → (∀ x ∈ ps, x ∈ al) → treeB ps = treeS ps := fun al hc hm => by
      unfold chkT at hc
      rw [List.all_eq_true] at hc
      have := hc ps (mem_allLists hm)
      simpa using this
    have hl : ps.length = 1 ∨ ps.length = 2 ∨ ps.length = 3 ∨ ps.length = 4 := by omega
    rcases hl with e | e | e | e
    · refine key [-1, 0] (by rw [e]; exact chkT1) fun x hx => ?_
      have := h x hx
      simp; omega
    · refine key [-1, 0, 1] (by rw [e]; exact chkT2) fun x hx => ?_
      have := h x hx
      simp; omega
    · refine key [-1, 0, 1, 2] (by rw [e]; exact chkT3) fun x hx => ?_
      have := h x hx
      simp; omega
    · refine key [-1, 0, 1, 2, 3] (by rw [e]; exact chkT4) fun x hx => ?_
      have := h x hx
      simp; omega
  · obtain ⟨x, hx⟩ := Classical.not_forall.1 h
    obtain ⟨hm, hx⟩ := Classical.not_imp.1 hx
    obtain ⟨i, hi, e⟩ := List.getElem_of_mem hm
    have := out_false (ps := ps) hi (by rw [List.getD_eq_getElem?_getD, List.getElem?_eq_getElem hi, e]; exact hx)
    rw [this.1, this.2]
/-- how many tops a variable has -/
def topB (ats : List At) (ps : List Int) (v : Int) (i : Nat) : Bool := decide (v ∈ vof ats i) && (decide (ps.getD i 0 < 0) || !decide (v ∈ vof ats (ps.getD i 0).toNat))
def topsG (ats : List At) (ps : List Int) (v : Int) : Nat → Nat → Int → Int
  | 0, _, t => t
  | f + 1, i, t => topsG ats ps v f (i + 1) (if topB ats ps v i = true then t + 1 else t)
def tops (ats : List At) (ps : List Int) (v : Int) : Int := topsG ats ps v ats.length 0 0
theorem topsG_step {ats : List At} {ps : List Int} {v t : Int} {n k : Nat} (h : k < n) : topsG ats ps v (n - k) k t = topsG ats ps v (n - (k + 1)) (k + 1) (if topB ats ps v k = true then t + 1 else t) := by
  rw [show n - k = (n - (k + 1)) + 1 by omega, topsG]
theorem topsG_end {ats : List At} {ps : List Int} {v t : Int} {n k : Nat} (h : ¬ k < n) : topsG ats ps v (n - k) k t = t := by
  rw [show n - k = 0 by omega, topsG]
def jtB (n : Nat) (ats : List At) (ps : List Int) : Bool := decide (ps.length = ats.length) && treeB ps && allF (fun v => decide (tops ats ps v = 1)) n 0
end Go.Proofs.Ytoffbconbgipjaa
