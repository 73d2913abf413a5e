/- The laws' helpers on rows of rows: the size, a copy, equality, marks written and looked for. -/
import Derived.Test.YtgehnacmgofobaaDoorNest
import Derived.Test.YtgehnacmgofobaaDoorInts
import Derived.Test.YtgehnacmgofobaaDoorRats
namespace Go.Proofs.YtgehnacmgofobaaDoor
open Go.RowKit

/-! plain laws -/
section
variable {α : Type}
def szG (f : Int → α → Int) : Int → List α → Int
  | l, [] => l
  | l, x :: xs => if f l x < 0 then -1 else szG f (f l x) xs
def szN (f : Int → α → Int) (left : Int) (xs : List α) : Int := if left - xs.length < 0 then -1 else szG f (left - xs.length) xs
theorem szG_step {f : Int → α → Int} {l : Int} {xs : List α} {k : Nat} (h : k < xs.length) (h1 : 0 ≤ f l xs[k]) : szG f l (xs.drop k) = szG f (f l xs[k]) (xs.drop (k + 1)) := by
  rw [List.drop_eq_getElem_cons h, szG, if_neg (by omega)]
theorem szG_stop {f : Int → α → Int} {l : Int} {xs : List α} {k : Nat} (h : k < xs.length) (h1 : f l xs[k] < 0) : szG f l (xs.drop k) = -1 := by
  rw [List.drop_eq_getElem_cons h, szG, if_pos h1]
theorem szG_end {f : Int → α → Int} {l : Int} {xs : List α} {k : Nat} (h : ¬ k < xs.length) : szG f l (xs.drop k) = l := by
  rw [List.drop_eq_nil_of_le (by omega), szG]
theorem szG_le {f : Int → α → Int} (hf : ∀ l x, 0 ≤ f l x → f l x ≤ l) : ∀ (xs : List α) (l : Int), 0 ≤ szG f l xs → szG f l xs ≤ l
  | [], l, _ => Int.le_refl l
  | x :: xs, l, h => by
    rw [szG] at h ⊢
    split at h
    · omega
    · rename_i h1
      rw [if_neg h1]
      exact Int.le_trans (szG_le hf xs _ h) (hf l x (by omega))
theorem szG_each {f : Int → α → Int} {c : α → Nat} (hf : ∀ l x, 0 ≤ f l x → f l x ≤ l - c x) : ∀ (xs : List α) (l : Int), 0 ≤ szG f l xs → szG f l xs + ((xs.map c).sum : Nat) ≤ l
  | [], l, _ => by simp [szG]
  | x :: xs, l, h => by
    rw [szG] at h ⊢
    split at h
    · omega
    · rename_i h1
      rw [if_neg h1]
      have h2 := szG_each hf xs _ h
      have h3 := hf l x (by omega)
      rw [List.map_cons, List.sum_cons]
      omega
theorem szN_le {f : Int → α → Int} (hf : ∀ l x, 0 ≤ f l x → f l x ≤ l) {left : Int} {xs : List α} (h : 0 ≤ szN f left xs) : szN f left xs ≤ left := by
  unfold szN at h ⊢
  split at h
  · omega
  · rename_i h1
    rw [if_neg h1]
    have := szG_le hf xs _ h
    omega
theorem szN_small {f : Int → α → Int} {c : α → Nat} (hf : ∀ l x, 0 ≤ f l x → f l x ≤ l - c x) {left : Int} {xs : List α} (h : 0 ≤ szN f left xs) : (xs.length : Int) + ((xs.map c).sum : Nat) ≤ left := by
  unfold szN at h
  split at h
  · omega
  · have := szG_each hf xs _ h
    omega
theorem sum_each {c : α → Nat} : ∀ {xs : List α} {x : α}, x ∈ xs → c x ≤ (xs.map c).sum
  | y :: xs, x, h => by
    rw [List.map_cons, List.sum_cons]
    rcases List.mem_cons.1 h with e | e
    · subst e; omega
    · have := sum_each (c := c) e
      omega
/-- marks written into a row, element by element -/
def mkN (mk : Int → α → α × Int) : Int → List α → List α × Int
  | k, [] => ([], k)
  | k, x :: xs => ((mk k x).1 :: (mkN mk (mk k x).2 xs).1, (mkN mk (mk k x).2 xs).2)
@[simp] theorem mkN_length (mk : Int → α → α × Int) : ∀ (xs : List α) (k : Int), (mkN mk k xs).1.length = xs.length
  | [], _ => rfl
  | x :: xs, k => by simp [mkN, mkN_length mk xs]
theorem mkN_append (mk : Int → α → α × Int) : ∀ (xs ys : List α) (k : Int), mkN mk k (xs ++ ys) = ((mkN mk k xs).1 ++ (mkN mk (mkN mk k xs).2 ys).1, (mkN mk (mkN mk k xs).2 ys).2)
  | [], ys, k => rfl
  | x :: xs, ys, k => by simp [mkN, mkN_append mk xs]
theorem mkN_take {mk : Int → α → α × Int} {k : Int} {xs : List α} {i : Nat} (h : i < xs.length) : mkN mk k (xs.take (i + 1)) = ((mkN mk k (xs.take i)).1 ++ [(mk (mkN mk k (xs.take i)).2 xs[i]).1], (mk (mkN mk k (xs.take i)).2 xs[i]).2) := by
  rw [List.take_succ_eq_append_getElem h, mkN_append]
  rfl
theorem mkN_at {mk : Int → α → α × Int} {k : Int} {xs : List α} {i : Nat} (h : i < xs.length) : (mkN mk k xs).1[i]'(by simpa using h) = (mk (mkN mk k (xs.take i)).2 xs[i]).1 := by
  have e : xs = xs.take i ++ (xs[i] :: xs.drop (i + 1)) := by rw [← List.drop_eq_getElem_cons h, List.take_append_drop]
  have e2 : (mkN mk k xs).1[i]? = (mkN mk k (xs.take i ++ (xs[i] :: xs.drop (i + 1)))).1[i]? := by rw [← e]
  rw [mkN_append] at e2
  simp only [mkN] at e2
  rw [List.getElem?_append_right (by simp; omega)] at e2
  rw [List.getElem?_eq_getElem (by simpa using h)] at e2
  simp at e2
  have hz : i - min i xs.length = 0 := by omega
  rw [hz] at e2
  simpa using e2
theorem mkN_sum {mk : Int → α → α × Int} {c : α → Nat} (hm : ∀ k x, (mk k x).2 = k + c x) : ∀ (xs : List α) (k : Int), (mkN mk k xs).2 = k + ((xs.map c).sum : Nat)
  | [], k => by simp [mkN]
  | x :: xs, k => by
    rw [mkN]
    simp only
    rw [mkN_sum hm xs, hm, List.map_cons, List.sum_cons]
    omega
theorem sum_take_le {c : α → Nat} (xs : List α) (i : Nat) : ((xs.take i).map c).sum ≤ (xs.map c).sum := by
  conv => rhs; rw [← List.take_append_drop i xs]
  rw [List.map_append, List.sum_append]
  omega
theorem mk_set {mk : Int → α → α × Int} {k : Int} {xs : List α} {i : Nat} (h : i < xs.length) : ((mkN mk k (xs.take i)).1 ++ xs.drop i).set i (mk (mkN mk k (xs.take i)).2 xs[i]).1 = (mkN mk k (xs.take (i + 1))).1 ++ xs.drop (i + 1) := by
  rw [mkN_take h, List.set_append_right _ _ (by simp; omega), show i - (mkN mk k (xs.take i)).1.length = 0 by simp; omega, List.drop_eq_getElem_cons h, List.set_cons_zero]
  simp
theorem mk_get {mk : Int → α → α × Int} {k : Int} {xs : List α} {i : Nat} (h : i < xs.length) (h' : i < ((mkN mk k (xs.take i)).1 ++ xs.drop i).length) : ((mkN mk k (xs.take i)).1 ++ xs.drop i)[i] = xs[i] := by
  rw [List.getElem_append_right (by simp; omega)]
  simp [show i - min i xs.length = 0 by omega]
end
def szI (l : Int) (x : List Int) : Int := szL l x.length
def szR (l : Int) (x : List (Int × Int)) : Int := szL l x.length
theorem szL_sub {l : Int} {n : Nat} (h : 0 ≤ szL l n) : szL l n ≤ l - n := by
  unfold szL at h ⊢
  split at h
  · omega
  · rename_i h1; rw [if_neg h1]; omega
theorem szI_sub (l : Int) (x : List Int) (h : 0 ≤ szI l x) : szI l x ≤ l - x.length := szL_sub h
theorem szR_sub (l : Int) (x : List (Int × Int)) (h : 0 ≤ szR l x) : szR l x ≤ l - x.length := szL_sub h
def mkI (k : Int) (x : List Int) : List Int × Int := (marks k x.length, k + x.length)

end Go.Proofs.YtgehnacmgofobaaDoor
