/- Contracts of functions that the statements reach, joined from several texts: Atom, Common, Asc, JoinPl, RowsT, AppL, AppV, RelOk2, Row1, Names, DbPl, AtomsN, Query, ValidQ, Strs, JoinT, FmtQ, Near, BindPl, BindCnt, PlJoin, PQPl. -/
import Derived.Test.YtbjpkfgkmilkdaaQ01
import Derived.Test.YtbjpkfgkmilkdaaRows
import Derived.Deep.RegionLaw
/- Contracts on atoms: the laws' helpers; membership; the variables of an atom; inclusion. -/
namespace Go.Proofs.Ytbjpkfgkmilkdaa
open Go.RowKit

def szA (left : Int) (s n : Nat) : Int := if left - s < 0 then -1 else szL (left - s) n
theorem szA_le {left : Int} {s n : Nat} (h : 0 ≤ szA left s n) : szA left s n ≤ left := by
  unfold szA at h ⊢
  split
  · simp_all
  · rename_i h1
    rw [if_neg h1] at h
    have := szL_le h
    omega
theorem szA_small {left : Int} {s n : Nat} (h : 0 ≤ szA left s n) : (s : Int) + n ≤ left := by
  unfold szA at h
  split at h
  · omega
  · have := szL_small h
    omega
/-! membership -/
theorem not_mem_of {xs : List Int} {k : Nat} {n : Int} (hk : ¬ k < xs.length) (h : ∀ j (h : j < xs.length), j < k → xs[j] ≠ n) : n ∉ xs := fun hm => by
  obtain ⟨j, hj, e⟩ := List.getElem_of_mem hm
  exact h j hj (by omega) e
theorem ne_snoc {xs : List Int} {k : Nat} {n : Int} (hk : k < xs.length) (h : ∀ j (h : j < xs.length), j < k → xs[j] ≠ n) (hn : xs[k] ≠ n) : ∀ j (h : j < xs.length), j < k + 1 → xs[j] ≠ n := fun j hj hlt => by
  by_cases e : j = k
  · subst e; exact hn
  · exact h j hj (by omega)

set_option maxHeartbeats 400000 in
theorem specContains_any {s : ByteArray} {A : Option Addr} {c : Nat} {xs : List Int} {n : Int} {w : World} (hx : xs.length ≤ 1000000000) (h1 : RI w A xs) :
    Calls Try.prog 74 #[.agg #[.string s, .slice A xs.length c], .int .i64 n] w fun e w' => e = .returned (.bool (decide (n ∈ xs))) ∧ ∃ y, w' = ext w y := by
  go_enter Try.func74, Try.ntmps74
  go_wp2
  go_loop [5] (fun i => ∃ k : Nat, i = .int .i64 k ∧ k ≤ xs.length ∧ ∀ j (h : j < xs.length), j < k → xs[j] ≠ n) (fun i => xs.length - (intOf i).toNat)
  case atStart => exact ⟨0, rfl, by omega, by simp⟩
  case round =>
    obtain ⟨k, rfl, hk, hj⟩ := hrel
    have Hj := Lib.hid hj
    clear hj
    by_cases hlt : k < xs.length
    · obtain ⟨b, o, rfl, hb, hc⟩ := h1.atI hlt
      go_wp2
      · go_ret
        have e : xs[k] = n := by simpa using ‹(xs[k] == n) = true›
        exact ⟨by rw [decide_eq_true (by rw [← e]; exact List.getElem_mem hlt)]; rfl, (by refine Chg.isExt (F := []) ?_ (refl_ext _) (by simp); repeat (with_reducible (first | exact Chg.refl _ _ | exact Nat.le_refl _ | exact Chg.ofExt (by assumption) | refine Chg.trans0 ?_ (by assumption) | refine Chg.extS ?_ _ | refine Chg.alloc ?_ _ | refine Chg.drew ?_ | refine Chg.setCellE ?_ ?_ _ | refine le_addk ?_ _ | refine le_ext ?_ | refine le_alloc ?_ _ | refine le_setC ?_ _ _ | refine le_drew ?_ | assumption | (refine Nat.le_of_lt ?_; omega) | omega)))⟩
      · have e : xs[k] ≠ n := by simpa using ‹(xs[k] == n) = false›
        exact ⟨⟨k + 1, by go_num, by omega, ne_snoc hlt Hj.out e⟩, by simp [intOf]; omega⟩
    · go_wp2
      go_ret
      exact ⟨by rw [decide_eq_false (not_mem_of hlt Hj.out)]; rfl, (by refine Chg.isExt (F := []) ?_ (refl_ext _) (by simp); repeat (with_reducible (first | exact Chg.refl _ _ | exact Nat.le_refl _ | exact Chg.ofExt (by assumption) | refine Chg.trans0 ?_ (by assumption) | refine Chg.extS ?_ _ | refine Chg.alloc ?_ _ | refine Chg.drew ?_ | refine Chg.setCellE ?_ ?_ _ | refine le_addk ?_ _ | refine le_ext ?_ | refine le_alloc ?_ _ | refine le_setC ?_ _ _ | refine le_drew ?_ | assumption | (refine Nat.le_of_lt ?_; omega) | omega)))⟩

/-! the place of a number in a list, -1 where it is not there -/
def iof (k : Nat) (n : Int) : List Int → Int
  | [] => -1
  | x :: xs => if x = n then k else iof (k + 1) n xs
theorem iof_step {k j : Nat} {n : Int} {xs : List Int} (h : j < xs.length) : iof k n (xs.drop j) = if xs[j] = n then (k : Int) else iof (k + 1) n (xs.drop (j + 1)) := by
  rw [List.drop_eq_getElem_cons h]; rfl
theorem iof_nonneg {n : Int} : ∀ (k : Nat) (xs : List Int), 0 ≤ iof k n xs ↔ n ∈ xs
  | _, [] => by simp [iof]
  | k, x :: xs => by
    unfold iof
    split
    · rename_i h; subst h; simp
    · rename_i h
      rw [iof_nonneg (k + 1) xs, List.mem_cons]
      constructor
      · exact .inr
      · rintro (e | e)
        · exact absurd e.symm h
        · exact e

set_option maxHeartbeats 400000 in
theorem indexOf_any {A : Option Addr} {c : Nat} {xs : List Int} {n : Int} {w : World} (hx : xs.length ≤ 1000000000) (h1 : RI w A xs) :
    Calls Try.prog 113 #[.slice A xs.length c, .int .i64 n] w fun e w' => e = .returned (.int .i64 (iof 0 n xs)) ∧ ∃ y, w' = ext w y := by
  go_enter Try.func113, Try.ntmps113
  go_wp2
  go_loop [9] (fun i => ∃ k : Nat, i = .int .i64 k ∧ k ≤ xs.length ∧ iof k n (xs.drop k) = iof 0 n xs) (fun i => xs.length - (intOf i).toNat)
  case atStart => exact ⟨0, rfl, by omega, by simp⟩
  case round =>
    obtain ⟨k, rfl, hk, hj⟩ := hrel
    have Hj := Lib.hid hj
    clear hj
    by_cases hlt : k < xs.length
    · obtain ⟨b, o, rfl, hb, hc⟩ := h1.atI hlt
      go_wp2
      · go_ret
        have e := Hj.out
        rw [iof_step hlt, if_pos (by simpa using ‹(xs[k] == n) = true›)] at e
        exact ⟨by rw [← e]; rfl, refl_ext w⟩
      · have e := Hj.out
        rw [iof_step hlt, if_neg (by simpa using ‹(xs[k] == n) = false›)] at e
        exact ⟨⟨k + 1, by go_num, by omega, e⟩, by simp [intOf]; omega⟩
    · go_wp2
      go_ret
      have e := Hj.out
      rw [List.drop_eq_nil_of_le (by omega)] at e
      exact ⟨by rw [← e]; rfl, refl_ext w⟩

theorem hasInt_any {A : Option Addr} {c : Nat} {xs : List Int} {n : Int} {w : World} (hx : xs.length ≤ 1000000000) (h1 : RI w A xs) :
    Calls Try.prog 104 #[.slice A xs.length c, .int .i64 n] w fun e w' => e = .returned (.bool (decide (n ∈ xs))) ∧ ∃ y, w' = ext w y := by
  go_enter Try.func104, Try.ntmps104
  go_wp2_with (go_at_call 113; refine (indexOf_any hx h1).mono ?_; rintro e w' ⟨rfl, y, rfl⟩)
  go_ret
  exact ⟨by simp only [← iof_nonneg 0 xs]; rfl, y, rfl⟩

theorem Contains_any {s : ByteArray} {A : Option Addr} {c : Nat} {xs : List Int} {n : Int} {w : World} (hx : xs.length ≤ 1000000000) (h1 : RI w A xs) :
    Calls Try.prog 107 #[.agg #[.string s, .slice A xs.length c], .int .i64 n] w fun e w' => e = .returned (.bool (decide (n ∈ xs))) ∧ ∃ y, w' = ext w y := by
  go_enter Try.func107, Try.ntmps107
  go_wp2_with (go_at_call 104; refine (hasInt_any hx (h1.toExt (by refine Chg.isExt (F := []) ?_ (refl_ext _) (by simp); repeat (with_reducible (first | exact Chg.refl _ _ | exact Nat.le_refl _ | exact Chg.ofExt (by assumption) | refine Chg.trans0 ?_ (by assumption) | refine Chg.extS ?_ _ | refine Chg.alloc ?_ _ | refine Chg.drew ?_ | refine Chg.setCellE ?_ ?_ _ | refine le_addk ?_ _ | refine le_ext ?_ | refine le_alloc ?_ _ | refine le_setC ?_ _ _ | refine le_drew ?_ | assumption | (refine Nat.le_of_lt ?_; omega) | omega))))).mono ?_; rintro e w' ⟨rfl, y, rfl⟩)
  go_ret
  exact ⟨rfl, (by refine Chg.isExt (F := []) ?_ (refl_ext _) (by simp); repeat (with_reducible (first | exact Chg.refl _ _ | exact Nat.le_refl _ | exact Chg.ofExt (by assumption) | refine Chg.trans0 ?_ (by assumption) | refine Chg.extS ?_ _ | refine Chg.alloc ?_ _ | refine Chg.drew ?_ | refine Chg.setCellE ?_ ?_ _ | refine le_addk ?_ _ | refine le_ext ?_ | refine le_alloc ?_ _ | refine le_setC ?_ _ _ | refine le_drew ?_ | assumption | (refine Nat.le_of_lt ?_; omega) | omega)))⟩

/-! inclusion -/
def subB (xs ys : List Int) : Bool := xs.all fun x => decide (x ∈ ys)
theorem subB_step {xs ys : List Int} {k : Nat} (h : k < xs.length) : subB (xs.drop k) ys = (decide (xs[k] ∈ ys) && subB (xs.drop (k + 1)) ys) := by
  rw [List.drop_eq_getElem_cons h]; rfl

/-! the variables of an atom, in ascending order -/
def avars : Nat → Nat → List Int → List Int
  | 0, _, _ => []
  | f + 1, k, xs => if (k : Int) ∈ xs then (k : Int) :: avars f (k + 1) xs else avars f (k + 1) xs
theorem avars_step {k : Nat} {xs : List Int} (h : k < 5) : avars (5 - k) k xs = if (k : Int) ∈ xs then (k : Int) :: avars (5 - (k + 1)) (k + 1) xs else avars (5 - (k + 1)) (k + 1) xs := by
  rw [show 5 - k = (5 - (k + 1)) + 1 by omega, avars]
theorem avars_length : ∀ (f k : Nat) (xs : List Int), (avars f k xs).length ≤ f
  | 0, _, _ => by simp [avars]
  | f + 1, k, xs => by
    have := avars_length f (k + 1) xs
    unfold avars
    split <;> simp <;> omega

end Go.Proofs.Ytbjpkfgkmilkdaa

/- The variables of two atoms; the program's way and the reference's. -/
namespace Go.Proofs.Ytbjpkfgkmilkdaa
open Go.RowKit

def comL (xs ys : List Int) : List Int := xs.filter fun x => decide (x ∈ ys)
theorem comL_take {xs ys : List Int} {k : Nat} (h : k < xs.length) : comL (xs.take (k + 1)) ys = comL (xs.take k) ys ++ (if decide (xs[k] ∈ ys) = true then [xs[k]] else []) := by
  unfold comL
  rw [List.take_succ_eq_append_getElem h, List.filter_append, List.filter_cons, List.filter_nil]
def cvars : Nat → Nat → List Int → List Int → List Int
  | 0, _, _, _ => []
  | f + 1, k, xs, ys => if decide ((k : Int) ∈ xs) = true ∧ decide ((k : Int) ∈ ys) = true then (k : Int) :: cvars f (k + 1) xs ys else cvars f (k + 1) xs ys
theorem mem_avars : ∀ (f k : Nat) (xs : List Int) (n : Int), n ∈ avars f k xs ↔ (k : Int) ≤ n ∧ n < k + f ∧ n ∈ xs
  | 0, k, xs, n => by simp [avars]; omega
  | f + 1, k, xs, n => by
    have ih := mem_avars f (k + 1) xs n
    unfold avars
    split
    · rename_i h
      rw [List.mem_cons, ih]
      constructor
      · rintro (rfl | ⟨h1, h2, h3⟩)
        · exact ⟨by omega, by omega, h⟩
        · exact ⟨by omega, by omega, h3⟩
      · rintro ⟨h1, h2, h3⟩
        by_cases e : n = k
        · exact .inl e
        · exact .inr ⟨by omega, by omega, h3⟩
    · rename_i h
      rw [ih]
      constructor
      · rintro ⟨h1, h2, h3⟩
        exact ⟨by omega, by omega, h3⟩
      · rintro ⟨h1, h2, h3⟩
        refine ⟨?_, by omega, h3⟩
        have : n ≠ k := by rintro rfl; exact h h3
        omega
theorem com_avars : ∀ (f k : Nat) (xs ys zs : List Int), (∀ n : Int, (k : Int) ≤ n → n < k + f → (n ∈ zs ↔ n ∈ ys)) → comL (avars f k xs) zs = cvars f k xs ys
  | 0, _, _, _, _, _ => rfl
  | f + 1, k, xs, ys, zs, h => by
    have ih := com_avars f (k + 1) xs ys zs fun n h1 h2 => h n (by omega) (by omega)
    have hk := h k (by omega) (by omega)
    unfold avars cvars
    by_cases h1 : (k : Int) ∈ xs
    · rw [if_pos h1]
      by_cases h2 : (k : Int) ∈ ys
      · rw [if_pos ⟨by simpa using h1, by simpa using h2⟩, ← ih]
        unfold comL
        rw [List.filter_cons, if_pos (by simpa using hk.2 h2)]
      · rw [if_neg (by simp [h2]), ← ih]
        unfold comL
        rw [List.filter_cons, if_neg (by simpa using fun h => h2 (hk.1 h))]
    · rw [if_neg h1, if_neg (by simp [h1]), ih]
theorem comV_eq (xs ys : List Int) : comL (avars 5 0 xs) (avars 5 0 ys) = cvars 5 0 xs ys := com_avars 5 0 xs ys _ fun n h1 h2 => by
  rw [mem_avars]
  constructor
  · exact fun h => h.2.2
  · exact fun h => ⟨h1, h2, h⟩
theorem cvars_length (xs ys : List Int) : (cvars 5 0 xs ys).length ≤ 5 := by
  rw [← comV_eq]
  exact Nat.le_trans (List.length_filter_le _ _) (avars_length 5 0 xs)
theorem cvars_step {k : Nat} {xs ys : List Int} (h : k < 5) : cvars (5 - k) k xs ys = if decide ((k : Int) ∈ xs) = true ∧ decide ((k : Int) ∈ ys) = true then (k : Int) :: cvars (5 - (k + 1)) (k + 1) xs ys else cvars (5 - (k + 1)) (k + 1) xs ys := by
  rw [show 5 - k = (5 - (k + 1)) + 1 by omega, cvars]
end Go.Proofs.Ytbjpkfgkmilkdaa

/- Ascending lists: one number put in, two united, numbers struck; the lists are told by their members. No program in it. -/
namespace Go.Proofs.Ytbjpkfgkmilkdaa
open Go.RowKit

/-- the place of n in an ascending list: the first that is not less -/
def insK (n : Int) : List Int → Nat
  | [] => 0
  | x :: xs => if x < n then insK n xs + 1 else 0
def insS (n : Int) (l : List Int) : List Int := if (l.drop (insK n l)).head? = some n then l else l.take (insK n l) ++ [n] ++ l.drop (insK n l)
def uniL (a b : List Int) : List Int := b.foldl (fun acc n => insS n acc) a
def strike (n : Int) (l : List Int) : List Int := l.filter fun x => decide (x ≠ n)
theorem insK_step {n : Int} {l : List Int} {k : Nat} (h : k < l.length) (hx : l[k] < n) : k + insK n (l.drop k) = k + 1 + insK n (l.drop (k + 1)) := by
  rw [List.drop_eq_getElem_cons h, insK, if_pos hx]
  omega
theorem insK_hit {n : Int} {l : List Int} {k : Nat} (h : k < l.length) (hx : ¬ l[k] < n) : k + insK n (l.drop k) = k := by
  rw [List.drop_eq_getElem_cons h, insK, if_neg hx]
  omega
theorem insK_end {n : Int} {l : List Int} {k : Nat} (h : ¬ k < l.length) : k + insK n (l.drop k) = k := by
  rw [List.drop_eq_nil_of_le (by omega), insK]
  omega
theorem uniL_step {a b : List Int} {k : Nat} (h : k < b.length) : uniL a (b.take (k + 1)) = insS b[k] (uniL a (b.take k)) := by
  unfold uniL
  rw [List.take_succ_eq_append_getElem h, List.foldl_append]
  rfl
def insR (n : Int) : List Int → List Int
  | [] => [n]
  | x :: xs => if x < n then x :: insR n xs else if x = n then x :: xs else n :: x :: xs
theorem insS_eq (n : Int) : ∀ l, insS n l = insR n l
  | [] => rfl
  | x :: xs => by
    have ih := insS_eq n xs
    unfold insS at ih
    unfold insS insK insR
    by_cases h : x < n
    · rw [if_pos h, if_pos h, List.drop_succ_cons, List.take_succ_cons, ← ih]
      split <;> simp
    · rw [if_neg h, if_neg h]
      by_cases h2 : x = n
      · simp [h2]
      · simp [h2]
theorem insS_length (n : Int) (l : List Int) : (insS n l).length ≤ l.length + 1 := by
  unfold insS
  split
  · omega
  · simp only [List.length_append, List.length_take, List.length_drop, List.length_cons, List.length_nil]; omega
theorem uniL_length : ∀ (b a : List Int), (uniL a b).length ≤ a.length + b.length
  | [], a => by simp [uniL]
  | x :: b, a => by
    have h1 := uniL_length b (insS x a)
    have h2 := insS_length x a
    have e : uniL a (x :: b) = uniL (insS x a) b := rfl
    rw [e, List.length_cons]
    omega
def Asc (l : List Int) : Prop := l.Pairwise (· < ·)
theorem mem_insR {n x : Int} : ∀ {l : List Int}, x ∈ insR n l ↔ x = n ∨ x ∈ l
  | [] => by simp [insR]
  | y :: ys => by
    unfold insR
    split
    · rw [List.mem_cons, mem_insR (l := ys), List.mem_cons]
      constructor
      · rintro (h | h | h)
        · exact .inr (.inl h)
        · exact .inl h
        · exact .inr (.inr h)
      · rintro (h | h | h)
        · exact .inr (.inl h)
        · exact .inl h
        · exact .inr (.inr h)
    · split
      · rename_i h; subst h
        simp
      · simp
theorem asc_insR {n : Int} : ∀ {l : List Int}, Asc l → Asc (insR n l)
  | [], _ => by simp [insR, Asc]
  | y :: ys, h => by
    have h' := List.pairwise_cons.1 h
    unfold insR
    split
    · rename_i hy
      refine List.pairwise_cons.2 ⟨fun z hz => ?_, asc_insR h'.2⟩
      rcases mem_insR.1 hz with e | e
      · omega
      · exact h'.1 z e
    · split
      · exact h
      · refine List.pairwise_cons.2 ⟨fun z hz => ?_, h⟩
        rcases List.mem_cons.1 hz with e | e
        · omega
        · have := h'.1 z e
          omega
theorem mem_insS {n x : Int} {l : List Int} : x ∈ insS n l ↔ x = n ∨ x ∈ l := by rw [insS_eq]; exact mem_insR
theorem asc_insS {n : Int} {l : List Int} (h : Asc l) : Asc (insS n l) := by rw [insS_eq]; exact asc_insR h
theorem mem_uniL {x : Int} : ∀ {b a : List Int}, x ∈ uniL a b ↔ x ∈ a ∨ x ∈ b
  | [], a => by simp [uniL]
  | y :: b, a => by
    have e : uniL a (y :: b) = uniL (insS y a) b := rfl
    rw [e, mem_uniL, mem_insS, List.mem_cons]
    constructor
    · rintro ((h | h) | h)
      · exact .inr (.inl h)
      · exact .inl h
      · exact .inr (.inr h)
    · rintro (h | h | h)
      · exact .inl (.inr h)
      · exact .inl (.inl h)
      · exact .inr h
theorem asc_uniL : ∀ {b a : List Int}, Asc a → Asc (uniL a b)
  | [], _, h => h
  | y :: b, a, h => by
    have e : uniL a (y :: b) = uniL (insS y a) b := rfl
    rw [e]
    exact asc_uniL (asc_insS h)
theorem asc_nil : Asc [] := List.Pairwise.nil
theorem asc_filter {l : List Int} (p : Int → Bool) (h : Asc l) : Asc (l.filter p) := List.Pairwise.filter p h
theorem asc_strike {n : Int} {l : List Int} (h : Asc l) : Asc (strike n l) := asc_filter _ h
theorem mem_strike {n x : Int} {l : List Int} : x ∈ strike n l ↔ x ∈ l ∧ x ≠ n := by unfold strike; simp
/-- two ascending lists with the same members are the same -/
theorem asc_ext : ∀ {a b : List Int}, Asc a → Asc b → (∀ x, x ∈ a ↔ x ∈ b) → a = b
  | [], [], _, _, _ => rfl
  | [], y :: b, _, _, h => by have := (h y).2 (by simp); simp at this
  | x :: a, [], _, _, h => by have := (h x).1 (by simp); simp at this
  | x :: a, y :: b, ha, hb, h => by
    have ha' := List.pairwise_cons.1 ha
    have hb' := List.pairwise_cons.1 hb
    have hxy : x = y := by
      have h1 := (h x).1 (by simp)
      have h2 := (h y).2 (by simp)
      rcases List.mem_cons.1 h1 with e | e
      · exact e
      · rcases List.mem_cons.1 h2 with e2 | e2
        · exact e2.symm
        · have := hb'.1 x e
          have := ha'.1 y e2
          omega
    subst hxy
    congr 1
    refine asc_ext ha'.2 hb'.2 fun z => ?_
    have hz := h z
    rw [List.mem_cons, List.mem_cons] at hz
    constructor
    · intro hm
      rcases hz.1 (.inr hm) with e | e
      · have := ha'.1 z hm; omega
      · exact e
    · intro hm
      rcases hz.2 (.inr hm) with e | e
      · have := hb'.1 z hm; omega
      · exact e
theorem asc_avars : ∀ (f k : Nat) (xs : List Int), Asc (avars f k xs)
  | 0, _, _ => asc_nil
  | f + 1, k, xs => by
    have ih := asc_avars f (k + 1) xs
    unfold avars
    split
    · refine List.pairwise_cons.2 ⟨fun z hz => ?_, ih⟩
      have := (mem_avars f (k + 1) xs z).1 hz
      omega
    · exact ih
/-- the numbers from k on, f of them, of which p holds -/
def selF (p : Int → Bool) : Nat → Nat → List Int
  | 0, _ => []
  | f + 1, k => if p k = true then (k : Int) :: selF p f (k + 1) else selF p f (k + 1)
theorem selF_step {p : Int → Bool} {n k : Nat} (h : k < n) : selF p (n - k) k = if p k = true then (k : Int) :: selF p (n - (k + 1)) (k + 1) else selF p (n - (k + 1)) (k + 1) := by
  rw [show n - k = (n - (k + 1)) + 1 by omega, selF]
theorem mem_selF {p : Int → Bool} {x : Int} : ∀ (f k : Nat), x ∈ selF p f k ↔ (k : Int) ≤ x ∧ x < k + f ∧ p x = true
  | 0, k => by simp [selF]; omega
  | f + 1, k => by
    have ih := mem_selF (p := p) (x := x) f (k + 1)
    unfold selF
    split
    · rename_i h
      rw [List.mem_cons, ih]
      constructor
      · rintro (rfl | ⟨h1, h2, h3⟩)
        · exact ⟨by omega, by omega, h⟩
        · exact ⟨by omega, by omega, h3⟩
      · rintro ⟨h1, h2, h3⟩
        by_cases e : x = k
        · exact .inl e
        · exact .inr ⟨by omega, by omega, h3⟩
    · rename_i h
      rw [ih]
      constructor
      · rintro ⟨h1, h2, h3⟩
        exact ⟨by omega, by omega, h3⟩
      · rintro ⟨h1, h2, h3⟩
        refine ⟨?_, by omega, h3⟩
        have : x ≠ k := by rintro rfl; exact h h3
        omega
theorem asc_selF {p : Int → Bool} : ∀ (f k : Nat), Asc (selF p f k)
  | 0, _ => asc_nil
  | f + 1, k => by
    have ih := asc_selF (p := p) f (k + 1)
    unfold selF
    split
    · refine List.pairwise_cons.2 ⟨fun z hz => ?_, ih⟩
      have := (mem_selF f (k + 1)).1 hz
      omega
    · exact ih
theorem selF_length {p : Int → Bool} : ∀ (f k : Nat), (selF p f k).length ≤ f
  | 0, _ => by simp [selF]
  | f + 1, k => by
    have := selF_length (p := p) f (k + 1)
    unfold selF
    split <;> simp <;> omega
end Go.Proofs.Ytbjpkfgkmilkdaa

/- Rows as assignments to variables: what a semijoin and a natural join of rows come to. No program in it. -/
namespace Go.Proofs.Ytbjpkfgkmilkdaa
open Go.RowKit

theorem iof_get {v : Int} : ∀ {k : Nat} {va : List Int}, v ∈ va → ∃ i : Nat, iof k v va = ((k + i : Nat) : Int) ∧ va[i]? = some v
  | _, [], h => by simp at h
  | k, x :: va, h => by
    rw [iof]
    split
    · rename_i e
      subst e
      exact ⟨0, by simp, by simp⟩
    · rename_i e
      rcases List.mem_cons.1 h with h | h
      · exact absurd h.symm e
      · obtain ⟨i, h1, h2⟩ := iof_get (k := k + 1) h
        exact ⟨i + 1, by rw [h1]; congr 1; omega, by simpa using h2⟩
theorem iof_nodup : ∀ {k : Nat} {va : List Int} {i : Nat} (_ : va.Nodup) (h : i < va.length), iof k va[i] va = ((k + i : Nat) : Int)
  | k, x :: va, 0, _, _ => by rw [iof]; simp
  | k, x :: va, i + 1, hn, h => by
    rw [List.nodup_cons] at hn
    rw [iof, if_neg, List.getElem_cons_succ, iof_nodup hn.2]
    · congr 1; omega
    · rintro e
      rw [List.getElem_cons_succ] at e
      exact hn.1 (e ▸ List.getElem_mem _)
theorem iof_neg {k : Nat} {v : Int} {va : List Int} : iof k v va < 0 ↔ v ∉ va := by
  have := iof_nonneg (n := v) k va
  constructor
  · intro h hm; have := this.2 hm; omega
  · intro h; by_cases h2 : 0 ≤ iof k v va
    · exact absurd (this.1 h2) h
    · omega

/-- a row's value at a variable -/
def valAt (va r : List Int) (v : Int) : Int := r.getD (iof 0 v va).toNat 0
theorem valAt_map {va : List Int} {g : Int → Int} {v : Int} (h : v ∈ va) : valAt va (va.map g) v = g v := by
  obtain ⟨i, h1, h2⟩ := iof_get (k := 0) h
  unfold valAt
  rw [h1, Int.toNat_natCast, Nat.zero_add, List.getD_eq_getElem?_getD, List.getElem?_map, h2]
  rfl
theorem map_valAt {va r : List Int} (hn : va.Nodup) (hl : r.length = va.length) : va.map (valAt va r) = r := by
  apply List.ext_getElem
  · simp [hl]
  · intro i h1 h2
    rw [List.getElem_map]
    unfold valAt
    rw [iof_nodup hn (by simpa using h1), Int.toNat_natCast, Nat.zero_add, getDl _ _ h2]
def agreeB (va r vb s : List Int) : Bool := va.all fun v => !decide (v ∈ vb) || decide (valAt va r v = valAt vb s v)
theorem agreeB_iff {va r vb s : List Int} : agreeB va r vb s = true ↔ ∀ v ∈ va, v ∈ vb → valAt va r v = valAt vb s v := by
  unfold agreeB
  simp only [List.all_eq_true, Bool.or_eq_true, Bool.not_eq_true', decide_eq_false_iff_not, decide_eq_true_eq]
  constructor
  · intro h v h1 h2
    rcases h v h1 with h | h
    · exact absurd h2 h
    · exact h
  · intro h v h1
    by_cases h2 : v ∈ vb
    · exact .inr (h v h1 h2)
    · exact .inl h2
def glueR (un va r vb s : List Int) : List Int := un.map fun v => if v ∈ va then valAt va r v else valAt vb s v
def joinL (un va : List Int) (ra : List (List Int)) (vb : List Int) (rb : List (List Int)) : List (List Int) :=
  ra.flatMap fun r => (rb.filter fun s => agreeB va r vb s).map fun s => glueR un va r vb s
def semiL (va : List Int) (ra : List (List Int)) (vb : List Int) (rb : List (List Int)) : List (List Int) := ra.filter fun r => rb.any fun s => agreeB va r vb s

theorem mem_semiL {va vb r : List Int} {ra rb : List (List Int)} (ha : va.Nodup) (hb : vb.Nodup) (hra : ∀ r ∈ ra, r.length = va.length) (hrb : ∀ s ∈ rb, s.length = vb.length) :
    r ∈ semiL va ra vb rb ↔ r ∈ ra ∧ ∃ g : Int → Int, va.map g = r ∧ vb.map g ∈ rb := by
  unfold semiL
  rw [List.mem_filter, List.any_eq_true]
  refine and_congr_right fun hr => ?_
  constructor
  · rintro ⟨s, hs, hag⟩
    rw [agreeB_iff] at hag
    refine ⟨fun v => if v ∈ va then valAt va r v else valAt vb s v, ?_, ?_⟩
    · rw [List.map_congr_left (g := valAt va r) (fun v hv => by rw [if_pos hv]), map_valAt ha (hra r hr)]
    · rw [List.map_congr_left (g := valAt vb s) (fun v hv => ?_), map_valAt hb (hrb s hs)]
      · exact hs
      · split
        · rename_i h; exact hag v h hv
        · rfl
  · rintro ⟨g, rfl, h2⟩
    refine ⟨_, h2, agreeB_iff.2 fun v h3 h4 => ?_⟩
    rw [valAt_map h3, valAt_map h4]
theorem mem_joinL {un va vb t : List Int} {ra rb : List (List Int)} (ha : va.Nodup) (hb : vb.Nodup) (hra : ∀ r ∈ ra, r.length = va.length) (hrb : ∀ s ∈ rb, s.length = vb.length) (hu : ∀ v ∈ un, v ∈ va ∨ v ∈ vb) :
    t ∈ joinL un va ra vb rb ↔ ∃ g : Int → Int, un.map g = t ∧ va.map g ∈ ra ∧ vb.map g ∈ rb := by
  unfold joinL
  simp only [List.mem_flatMap, List.mem_map, List.mem_filter]
  constructor
  · rintro ⟨r, hr, s, ⟨hs, hag⟩, rfl⟩
    rw [agreeB_iff] at hag
    refine ⟨fun v => if v ∈ va then valAt va r v else valAt vb s v, rfl, ?_, ?_⟩
    · rw [List.map_congr_left (g := valAt va r) (fun v hv => by rw [if_pos hv]), map_valAt ha (hra r hr)]
      exact hr
    · rw [List.map_congr_left (g := valAt vb s) (fun v hv => ?_), map_valAt hb (hrb s hs)]
      · exact hs
      · split
        · rename_i h; exact hag v h hv
        · rfl
  · rintro ⟨g, rfl, h1, h2⟩
    refine ⟨_, h1, _, ⟨h2, agreeB_iff.2 fun v h3 h4 => by rw [valAt_map h3, valAt_map h4]⟩, ?_⟩
    unfold glueR
    refine List.map_congr_left fun v hv => ?_
    split
    · rename_i h; exact valAt_map h
    · rename_i h
      rcases hu v hv with k | k
      · exact absurd k h
      · exact valAt_map k
theorem glue_left {un va r vb s : List Int} (ha : va.Nodup) (hr : r.length = va.length) (hu : ∀ v ∈ va, v ∈ un) : va.map (valAt un (glueR un va r vb s)) = r := by
  unfold glueR
  rw [List.map_congr_left (g := valAt va r) (fun v hv => by rw [valAt_map (hu v hv), if_pos hv]), map_valAt ha hr]
theorem glue_right {un va r vb s : List Int} (hb : vb.Nodup) (hs : s.length = vb.length) (hu : ∀ v ∈ vb, v ∈ un) (hag : agreeB va r vb s = true) : vb.map (valAt un (glueR un va r vb s)) = s := by
  unfold glueR
  rw [List.map_congr_left (g := valAt vb s) (fun v hv => ?_), map_valAt hb hs]
  rw [valAt_map (hu v hv)]
  split
  · rename_i h; exact agreeB_iff.1 hag v h hv
  · rfl
theorem joinL_nodup {un va vb : List Int} {ra rb : List (List Int)} (ha : va.Nodup) (hb : vb.Nodup) (hra : ∀ r ∈ ra, r.length = va.length) (hrb : ∀ s ∈ rb, s.length = vb.length) (hua : ∀ v ∈ va, v ∈ un) (hub : ∀ v ∈ vb, v ∈ un)
    (na : ra.Nodup) (nb : rb.Nodup) : (joinL un va ra vb rb).Nodup := by
  unfold joinL
  refine List.pairwise_flatMap.2 ⟨fun r hr => ?_, ?_⟩
  · refine List.pairwise_map.2 ?_
    refine List.Pairwise.imp_of_mem (R := (· ≠ ·)) (fun {s s'} hs hs' hne e => ?_) (List.Pairwise.filter _ nb)
    rw [List.mem_filter] at hs hs'
    apply hne
    rw [← glue_right (un := un) (va := va) (r := r) hb (hrb s hs.1) hub hs.2, e, glue_right hb (hrb s' hs'.1) hub hs'.2]
  · refine List.Pairwise.imp_of_mem (R := (· ≠ ·)) (fun {r r'} hr hr' hne _ hx y hy e => ?_) na
    rw [List.mem_map] at hx hy
    obtain ⟨s, _, rfl⟩ := hx
    obtain ⟨s', _, rfl⟩ := hy
    apply hne
    rw [← glue_left (un := un) (vb := vb) (s := s) ha (hra r hr) hua, e, glue_left ha (hra r' hr') hua]
theorem nodup_sortR {l : List (List Int)} (h : l.Nodup) : (sortR l).length = l.length :=
  List.Perm.length_eq ((List.perm_ext_iff_of_nodup (ascR_nodup (asc_sortR l)) h).2 fun _ => mem_sortR)
theorem asc_nodup {l : List Int} (h : Asc l) : l.Nodup := List.Pairwise.imp (fun {_ _} h => by omega) h

/-! ### a labeled relation that is valid -/
structure VrOk (d : VRd) : Prop where
  asc : Asc d.1
  lo : ∀ v ∈ d.1, 0 ≤ v ∧ v ≤ 4
  len : d.1.length ≤ 5
  ar : d.2.1 = (d.1.length : Int)
  cnt : d.2.2.length ≤ 4000
  rl : ∀ r ∈ d.2.2, r.length = d.1.length
  rv : ∀ r ∈ d.2.2, rowV r = true
  ra : AscR d.2.2
theorem vars1_iff {xs : List Int} : varsB xs = true ↔ Asc xs ∧ ∀ v ∈ xs, 0 ≤ v ∧ v ≤ 4 := by
  unfold varsB
  rw [allN_true]
  constructor
  · intro h
    have hv : ∀ i (hi : i < xs.length), 0 ≤ xs[i] ∧ xs[i] ≤ 4 := fun i hi => by
      have := h i (by omega) (by omega)
      unfold vars1 at this
      rw [getDl _ _ hi, Bool.and_eq_true] at this
      exact inB_t this.1
    refine ⟨?_, fun v hv2 => by obtain ⟨i, hi, rfl⟩ := List.getElem_of_mem hv2; exact hv i hi⟩
    have hn : ∀ i (hi : i + 1 < xs.length), xs[i] < xs[i + 1] := fun i hi => by
      have := h (i + 1) (by omega) (by omega)
      unfold vars1 at this
      rw [getDl _ _ hi, show i + 1 - 1 = i by omega, getDl _ _ (show i < xs.length by omega), Bool.and_eq_true] at this
      simpa using this.2
    unfold Asc
    rw [List.pairwise_iff_getElem]
    intro i j hi hj hij
    obtain ⟨d, rfl⟩ : ∃ d, j = i + 1 + d := ⟨j - i - 1, by omega⟩
    induction d with
    | zero => exact hn i hj
    | succ d ih =>
      have h1 := ih (by omega) (by omega)
      have h2 := hn (i + 1 + d) hj
      exact Int.lt_trans h1 h2
  · rintro ⟨h1, h2⟩ i _ hi
    rw [Nat.zero_add] at hi
    unfold vars1
    have h3 := h2 _ (List.getElem_mem hi)
    rw [getDl _ _ hi, Bool.and_eq_true]
    refine ⟨by simp [inB, h3], ?_⟩
    rcases Nat.eq_zero_or_pos i with h4 | h4
    · simp [h4]
    · rw [getDl _ _ (show i - 1 < xs.length by omega)]
      have := List.pairwise_iff_getElem.1 h1 (i - 1) i (by omega) hi (by omega)
      simp [this]
theorem asc_bd : ∀ {xs : List Int} {lo hi : Int}, Asc xs → (∀ v ∈ xs, lo ≤ v ∧ v ≤ hi) → lo ≤ hi + 1 → (xs.length : Int) ≤ hi + 1 - lo
  | [], lo, hi, _, _, h => by simp; omega
  | x :: xs, lo, hi, h, hb, _ => by
    unfold Asc at h
    rw [List.pairwise_cons] at h
    have hx := hb x (by simp)
    have := asc_bd (xs := xs) (lo := x + 1) (hi := hi) h.2 (fun v hv => ⟨by have := h.1 v hv; omega, (hb v (by simp [hv])).2⟩) (by omega)
    simp only [List.length_cons]
    omega
theorem asc_len5 {xs : List Int} (h : Asc xs) (hb : ∀ v ∈ xs, 0 ≤ v ∧ v ≤ 4) : xs.length ≤ 5 := by
  have := asc_bd h hb (by omega)
  omega
theorem vrB_iff {d : VRd} : vrB d = true ↔ VrOk d := by
  unfold vrB
  rw [Bool.and_eq_true, Bool.and_eq_true, vars1_iff, rowsB_iff, decide_eq_true_eq]
  constructor
  · rintro ⟨⟨⟨h1, h2⟩, h3, h4, h5, h6, h7⟩, h8⟩
    exact ⟨h1, h2, by omega, h8, h5, fun r hr => by have := (h6 r hr).1; omega, fun r hr => (h6 r hr).2, h7⟩
  · intro h
    have := h.len
    exact ⟨⟨⟨h.asc, h.lo⟩, by rw [h.ar]; omega, by rw [h.ar]; omega, h.cnt, fun r hr => ⟨by rw [h.ar, h.rl r hr], h.rv r hr⟩, h.ra⟩, h.ar⟩

/-! ### the semijoin and the natural join of valid ones -/
def semiR (a b : VRd) : Option VRd := if vrB a = true ∧ vrB b = true then some (a.1, a.2.1, semiL a.1 a.2.2 b.1 b.2.2) else none
def joinVR (a b : VRd) : VRd := (uniL a.1 b.1, ((uniL a.1 b.1).length : Int), sortR (joinL (uniL a.1 b.1) a.1 a.2.2 b.1 b.2.2))
def joinR (a b : VRd) : Option VRd := if (vrB a = true ∧ vrB b = true) ∧ (joinL (uniL a.1 b.1) a.1 a.2.2 b.1 b.2.2).length ≤ 4000 then some (joinVR a b) else none
theorem semi_ok {a b d : VRd} (h : semiR a b = some d) : VrOk d := by
  unfold semiR at h
  split at h
  · rename_i hh
    injection h with h
    subst h
    have ha := vrB_iff.1 hh.1
    have hs : ∀ r ∈ semiL a.1 a.2.2 b.1 b.2.2, r ∈ a.2.2 := fun r hr => (List.mem_filter.1 hr).1
    exact ⟨ha.asc, ha.lo, ha.len, ha.ar, Nat.le_trans (List.length_filter_le _ _) ha.cnt, fun r hr => ha.rl r (hs r hr), fun r hr => ha.rv r (hs r hr), ascR_filter _ ha.ra⟩
  · cases h
theorem rowV_iff {r : List Int} : rowV r = true ↔ ∀ x ∈ r, 0 ≤ x ∧ x ≤ 99 := by
  unfold rowV
  rw [List.all_eq_true]
  constructor
  · exact fun h x hx => inB_t (h x hx)
  · exact fun h x hx => by simp [inB, h x hx]
theorem valAt_mem {va r : List Int} {v : Int} (h : v ∈ va) (hl : r.length = va.length) : valAt va r v ∈ r := by
  obtain ⟨i, h1, h2⟩ := iof_get (k := 0) h
  unfold valAt
  have hi : i < va.length := (List.getElem?_eq_some_iff.1 h2).1
  rw [h1, Int.toNat_natCast, Nat.zero_add, getDl _ _ (by omega)]
  exact List.getElem_mem _
theorem glue_valid {un va r vb s : List Int} (hu : ∀ v ∈ un, v ∈ va ∨ v ∈ vb) (hr : r.length = va.length) (hs : s.length = vb.length) (vr : rowV r = true) (vs : rowV s = true) : rowV (glueR un va r vb s) = true := by
  rw [rowV_iff] at vr vs ⊢
  intro x hx
  unfold glueR at hx
  obtain ⟨v, hv, rfl⟩ := List.mem_map.1 hx
  split
  · rename_i h; exact vr _ (valAt_mem h hr)
  · rename_i h
    rcases hu v hv with k | k
    · exact absurd k h
    · exact vs _ (valAt_mem k hs)
theorem join_mem {a b : VRd} (ha : VrOk a) (hb : VrOk b) {t : List Int} : t ∈ joinL (uniL a.1 b.1) a.1 a.2.2 b.1 b.2.2 ↔ ∃ g : Int → Int, (uniL a.1 b.1).map g = t ∧ a.1.map g ∈ a.2.2 ∧ b.1.map g ∈ b.2.2 :=
  mem_joinL (asc_nodup ha.asc) (asc_nodup hb.asc) ha.rl hb.rl fun _ h => mem_uniL.1 h
theorem join_rows {a b : VRd} (ha : VrOk a) (hb : VrOk b) : ∀ t ∈ joinL (uniL a.1 b.1) a.1 a.2.2 b.1 b.2.2, t.length = (uniL a.1 b.1).length ∧ rowV t = true := fun t ht => by
  unfold joinL at ht
  simp only [List.mem_flatMap, List.mem_map, List.mem_filter] at ht
  obtain ⟨r, hr, s, ⟨hs, _⟩, rfl⟩ := ht
  exact ⟨by simp [glueR], glue_valid (fun _ h => mem_uniL.1 h) (ha.rl r hr) (hb.rl s hs) (ha.rv r hr) (hb.rv s hs)⟩
theorem uni_bd {a b : VRd} (ha : VrOk a) (hb : VrOk b) : ∀ v ∈ uniL a.1 b.1, 0 ≤ v ∧ v ≤ 4 := fun v hv => by
  rcases mem_uniL.1 hv with h | h
  · exact ha.lo v h
  · exact hb.lo v h
theorem join_nodup {a b : VRd} (ha : VrOk a) (hb : VrOk b) : (joinL (uniL a.1 b.1) a.1 a.2.2 b.1 b.2.2).Nodup :=
  joinL_nodup (asc_nodup ha.asc) (asc_nodup hb.asc) ha.rl hb.rl (fun _ h => mem_uniL.2 (.inl h)) (fun _ h => mem_uniL.2 (.inr h)) (ascR_nodup ha.ra) (ascR_nodup hb.ra)
theorem join_ok {a b d : VRd} (h : joinR a b = some d) : VrOk d := by
  unfold joinR at h
  split at h
  · rename_i hh
    obtain ⟨⟨h1, h2⟩, h3⟩ := hh
    injection h with h
    subst h
    have ha := vrB_iff.1 h1
    have hb := vrB_iff.1 h2
    have hA := asc_uniL (b := b.1) ha.asc
    exact ⟨hA, uni_bd ha hb, asc_len5 hA (uni_bd ha hb), rfl, Nat.le_trans (sortR_length _) h3, fun r hr => (join_rows ha hb r (mem_sortR.1 hr)).1, fun r hr => (join_rows ha hb r (mem_sortR.1 hr)).2, asc_sortR _⟩
  · cases h
/-- the reference's way: rows in any order, made a relation -/
theorem join_new {a b : VRd} (h : vrB a = true ∧ vrB b = true) : newR ((uniL a.1 b.1).length : Int) (joinL (uniL a.1 b.1) a.1 a.2.2 b.1 b.2.2) = (joinR a b).map (·.2) := by
  have ha := vrB_iff.1 h.1
  have hb := vrB_iff.1 h.2
  have hl := nodup_sortR (join_nodup ha hb)
  have h5 := asc_len5 (asc_uniL (b := b.1) ha.asc) (uni_bd ha hb)
  by_cases hc : (joinL (uniL a.1 b.1) a.1 a.2.2 b.1 b.2.2).length ≤ 4000
  · unfold joinR
    rw [if_pos ⟨h, hc⟩, newR_some (rowsIn_iff.2 fun r hr => by have := join_rows ha hb r hr; exact ⟨by rw [this.1], this.2⟩) (by omega) (by omega) (by omega)]
    rfl
  · unfold joinR
    rw [if_neg (fun h => hc h.2), Option.map_none, newR_none]
    rintro ⟨_, h2⟩
    have := (rowsB_iff.1 h2).2.2.1
    omega
end Go.Proofs.Ytbjpkfgkmilkdaa

/- The type of lists of lists of numbers, as the model holds it. -/
namespace Go.Proofs.Ytbjpkfgkmilkdaa
theorem tIIr : SlT Try.prog 106 42 1 24 (.slice none 0 0) := ⟨Try.underlying106, by kernel_rfl, rfl, by omega⟩
theorem tRRr : SlT Try.prog 29 26 1 24 (.slice none 0 0) := ⟨Try.underlying29, by kernel_rfl, rfl, by omega⟩
end Go.Proofs.Ytbjpkfgkmilkdaa

/- Appending any slice that is only read onto a row that is owned, at a step of a region that draws its order. No program in it. -/
namespace Go.Proofs.Ytbjpkfgkmilkdaa
open Go.RowKit
section
variable {P : Program} {w : World}
theorem wp_appL {o : Oper} {a : Act} {K : Act → World → Prop} {Q : Exit → Act → World → Prop} (s x : Operand) (t : TypeId)
    (ho : o.op = .call { callee := .builtin .append, args := #[s, x], argTypes := #[t, t] })
    {α : Type} {E : SE α} [SMono E] [SPlain E] {V : VE α} {te size bytes : Nat} {z : Value} (hT : SlT P t te size bytes z) {v : Value} {ds es : List α} {F : List Nat} (hs : a.eval s = v) (hS : SV te size E w v ds F)
    {A : Option Addr} {c m : Nat} (hx : a.eval x = .slice A m c) (hm : m = es.length) (hc : A = none → c = 0) (hV : RV size V w A es) (hVE : ∀ c d, V w c d → E w c d []) (h1 : ∀ c d, V w c d → ∀ u ∈ c, u.oneCell' = true)
    (hlen : ds.length + m ≤ 2000000000) (hby : bytes ≤ 60000)
    (h : ∀ v' w' F', SV te size E w' v' (ds ++ es) F' → Chg F w w' → (∀ b ∈ F', b ∈ F ∨ w.heap.size ≤ b) → K (a.put o.dst v') w') : o.wp P a w K Q := by
  subst hm
  cases A with
  | none =>
    have e0 : es = [] := Classical.byContradiction fun hn => by
      obtain ⟨b, o, h, _⟩ := hV hn
      cases h
    subst e0
    obtain ⟨ht, hi, _, _⟩ := hT
    obtain ⟨i, hi, _, _, _⟩ := info_parts hi
    rw [hc rfl] at hx
    have hS' := hS
    obtain ⟨vs, F2, ho', _, _⟩ := hS'
    have hrun := run_append_owned_none (P := P) (w := w) 0 t o.type te i size ht hi v ds.length vs ho'
    unfold Oper.wp execOp
    simp only [ho, resolve, invoke, builtin, Sem.run_bind, Sem.run_pure, Result.andThen_ok, List.map_toArray, List.map_cons, List.map_nil, hs, hx, List.length_nil, hrun]
    exact h v w F (by simpa using hS) (Chg.refl F w) fun b hb => .inl hb
  | some ad =>
    have hN := hS.nodup
    have key : ∃ cs : List Value, (∀ j u, cs[j]? = some u → w.cell? (ad.add j) = some u) ∧ elems size E w cs es [] ∧ ∀ u ∈ cs, u.oneCell' = true := by
      by_cases hn : es = []
      · subst hn
        exact ⟨[], by simp, ⟨rfl, rfl⟩, by simp⟩
      · obtain ⟨b, o, e, _, h3⟩ := hV hn
        injection e with e
        subst e
        exact RV.cells hVE h1 es o h3
    obtain ⟨cs, k1, k2, k3⟩ := key
    refine wp_appS _ s x t ho hT hs hS hN hx k1 k3 rfl k2 (by simpa using hN) hlen hby ?_
    intro v' w' F' h2 h3 _ h5
    exact h v' w' F' h2 h3 fun b hb => by
      rcases h5 b hb with h | h | h
      · exact .inl h
      · simp at h
      · exact .inr h
theorem step_appL {ops : Array Oper} {o : Oper} {a : Act} {K : Act → World → Prop} {Q : Exit → Act → World → Prop} {X : Prop} (hgd : o.guard = none) (s x : Operand) (t : TypeId)
    (ho : o.op = .call { callee := .builtin .append, args := #[s, x], argTypes := #[t, t] })
    {α : Type} {E : SE α} [SMono E] [SPlain E] {V : VE α} {te size bytes : Nat} {z : Value} (hT : SlT P t te size bytes z) {v : Value} {ds es : List α} {F : List Nat} (hs : a.eval s = v) (hS : SV te size E w v ds F)
    {A : Option Addr} {c m : Nat} (hx : a.eval x = .slice A m c) (hm : m = es.length) (hc : A = none → c = 0) (hV : RV size V w A es) (hVE : ∀ c d, V w c d → E w c d []) (h1 : ∀ c d, V w c d → ∀ u ∈ c, u.oneCell' = true)
    (hlen : ds.length + m ≤ 2000000000) (hby : bytes ≤ 60000)
    (h : ∀ v' w' F', SV te size E w' v' (ds ++ es) F' → Chg F w w' → (∀ b ∈ F', b ∈ F ∨ w.heap.size ≤ b) → K (a.put o.dst v') w') :
    if Region.wanted o (yielded ops a.tmps) = true then Oper.wp P o a w K Q else X := by
  have hwt : Region.wanted o (yielded ops a.tmps) = true := by simp [Region.wanted, hgd]
  rw [if_pos hwt]
  exact wp_appL s x t ho hT hs hS hx hm hc hV hVE h1 hlen hby h
theorem vI_s {w : World} (c : List Value) (d : Int) (h : vI w c d) : sI w c d [] := ⟨h, rfl⟩
theorem vI_1 {w : World} (c : List Value) (d : Int) (h : vI w c d) : ∀ u ∈ c, u.oneCell' = true := by
  simp only [vI] at h
  subst h
  simp [Value.oneCell']
/-- the slice of one number just made reads so -/
theorem RI.one {w : World} {B : Nat} {n : Int} (h : BoxAt w B #[.int .i64 n]) : RI w (some ⟨B, 0, none⟩) [n] := fun _ => ⟨B, 0, rfl, h.1, fun j hj => by
  have : j = 0 := by simpa using hj
  subst this
  refine ⟨[.int .i64 n], rfl, fun i hi => ?_, rfl⟩
  have : i = 0 := by simpa using hi
  subst this
  have := h.2.1 0
  simpa using this⟩
end
end Go.Proofs.Ytbjpkfgkmilkdaa

/- Appending any slice that is only read, nil or not, whatever its capacity says. No program in it. -/
namespace Go.Proofs.Ytbjpkfgkmilkdaa
open Go.RowKit
section
variable {P : Program} {w : World}
theorem run_append_none_c (base : Nat) (t ty e : TypeId) (i : TypeInfo) (size c : Nat) (ht : P.underlying t = some (.slice e)) (hi : P.info? e = some i)
    (v : Value) (n : Nat) (xs : List Value) (hown : w.ownsRow base e size v n xs) : (Builtin.append_ #[t, t] ty #[v, .slice none 0 c]).run P w = .ok v w := by
  rcases hown.2 with ⟨rfl, rfl⟩ | ⟨g, cap, cur, rfl, _, _, hnc, _⟩
  · simp [Builtin.append_, run_underlying ht, sizeOf, typeInfo, hi, Builtin.lenOf, Builtin.firstCells]
  · simp [Builtin.append_, run_underlying ht, sizeOf, typeInfo, hi, Builtin.lenOf, Builtin.firstCells, hnc, storeCells]
theorem wp_appV {o : Oper} {a : Act} {K : Act → World → Prop} {Q : Exit → Act → World → Prop} (s x : Operand) (t : TypeId)
    (ho : o.op = .call { callee := .builtin .append, args := #[s, x], argTypes := #[t, t] })
    {α : Type} {E : SE α} [SMono E] [SPlain E] {V : VE α} {te size bytes : Nat} {z : Value} (hT : SlT P t te size bytes z) {v : Value} {ds es : List α} {F : List Nat} (hs : a.eval s = v) (hS : SV te size E w v ds F)
    {A : Option Addr} {c m : Nat} (hx : a.eval x = .slice A m c) (hm : m = es.length) (hV : RV size V w A es) (hVE : ∀ c d, V w c d → E w c d []) (h1 : ∀ c d, V w c d → ∀ u ∈ c, u.oneCell' = true)
    (hlen : ds.length + m ≤ 2000000000) (hby : bytes ≤ 60000)
    (h : ∀ v' w' F', SV te size E w' v' (ds ++ es) F' → Chg F w w' → (∀ b ∈ F', b ∈ F ∨ w.heap.size ≤ b) → K (a.put o.dst v') w') : o.wp P a w K Q := by
  cases A with
  | some ad => exact wp_appL s x t ho hT hs hS hx hm (fun h => by cases h) hV hVE h1 hlen hby h
  | none =>
    have e0 : es = [] := Classical.byContradiction fun hn => by
      obtain ⟨b, o, h, _⟩ := hV hn
      cases h
    subst e0
    subst hm
    obtain ⟨ht, hi, _, _⟩ := hT
    obtain ⟨i, hi, _, _, _⟩ := info_parts hi
    have hS' := hS
    obtain ⟨vs, F2, ho', _, _⟩ := hS'
    have hrun := run_append_none_c (P := P) (w := w) 0 t o.type te i size c ht hi v ds.length vs ho'
    unfold Oper.wp execOp
    simp only [ho, resolve, invoke, builtin, Sem.run_bind, Sem.run_pure, Result.andThen_ok, List.map_toArray, List.map_cons, List.map_nil, hs, hx, List.length_nil, hrun]
    exact h v w F (by simpa using hS) (Chg.refl F w) fun b hb => .inl hb
theorem step_appV {ops : Array Oper} {o : Oper} {a : Act} {K : Act → World → Prop} {Q : Exit → Act → World → Prop} {X : Prop} (hgd : o.guard = none) (s x : Operand) (t : TypeId)
    (ho : o.op = .call { callee := .builtin .append, args := #[s, x], argTypes := #[t, t] })
    {α : Type} {E : SE α} [SMono E] [SPlain E] {V : VE α} {te size bytes : Nat} {z : Value} (hT : SlT P t te size bytes z) {v : Value} {ds es : List α} {F : List Nat} (hs : a.eval s = v) (hS : SV te size E w v ds F)
    {A : Option Addr} {c m : Nat} (hx : a.eval x = .slice A m c) (hm : m = es.length) (hV : RV size V w A es) (hVE : ∀ c d, V w c d → E w c d []) (h1 : ∀ c d, V w c d → ∀ u ∈ c, u.oneCell' = true)
    (hlen : ds.length + m ≤ 2000000000) (hby : bytes ≤ 60000)
    (h : ∀ v' w' F', SV te size E w' v' (ds ++ es) F' → Chg F w w' → (∀ b ∈ F', b ∈ F ∨ w.heap.size ≤ b) → K (a.put o.dst v') w') :
    if Region.wanted o (yielded ops a.tmps) = true then Oper.wp P o a w K Q else X := by
  have hwt : Region.wanted o (yielded ops a.tmps) = true := by simp [Region.wanted, hgd]
  rw [if_pos hwt]
  exact wp_appV s x t ho hT hs hS hx hm hV hVE h1 hlen hby h
theorem wpList_appV {ops : Array Oper} {rest : List Oper} {o : Oper} {a : Act} {Q : Exit → Act → World → Prop} (hgd : o.guard = none) (s x : Operand) (t : TypeId)
    (ho : o.op = .call { callee := .builtin .append, args := #[s, x], argTypes := #[t, t] })
    {α : Type} {E : SE α} [SMono E] [SPlain E] {V : VE α} {te size bytes : Nat} {z : Value} (hT : SlT P t te size bytes z) {v : Value} {ds es : List α} {F : List Nat} (hs : a.eval s = v) (hS : SV te size E w v ds F)
    {A : Option Addr} {c m : Nat} (hx : a.eval x = .slice A m c) (hm : m = es.length) (hV : RV size V w A es) (hVE : ∀ c d, V w c d → E w c d []) (h1 : ∀ c d, V w c d → ∀ u ∈ c, u.oneCell' = true)
    (hlen : ds.length + m ≤ 2000000000) (hby : bytes ≤ 60000)
    (h : ∀ v' w' F', SV te size E w' v' (ds ++ es) F' → Chg F w w' → (∀ b ∈ F', b ∈ F ∨ w.heap.size ≤ b) → wpList P ops Q rest (a.put o.dst v') w') : wpList P ops Q (o :: rest) a w :=
  wpList_plain hgd fun _ hK => wp_appV s x t ho hT hs hS hx hm hV hVE h1 hlen hby fun v' w' F' h2 h3 h5 => hK _ _ (h v' w' F' h2 h3 h5)
end
/-- an element that is only seen in a world of old: it owns nothing -/
def sOld {α : Type} (V : VE α) (W : World) : SE α := fun _ c d F => V W c d ∧ F = []
instance {α : Type} (V : VE α) (W : World) : SMono (sOld V W) := ⟨fun h b hb => by rw [h.2] at hb; simp at hb, fun h _ => h⟩
instance {α : Type} (V : VE α) (W : World) : SPlain (sOld V W) := ⟨fun h => h.2⟩
theorem sOld_v {α : Type} {V : VE α} [VMono V] {W w : World} (hx : ∃ y, w = ext W y) (c : List Value) (d : α) (F : List Nat) (h : sOld V W w c d F) : V w c d := by
  obtain ⟨y, rfl⟩ := hx
  exact VMono.ext h.1
end Go.Proofs.Ytbjpkfgkmilkdaa

/- Whether a relation is valid, the reference's way; whether a labeled relation is valid, the program's way and the reference's. -/
namespace Go.Proofs.Ytbjpkfgkmilkdaa
open Go.RowKit

theorem RV.atJ {w : World} {b o : Nat} {d : List Int} (h : RI w (some ⟨b, o, none⟩) d) {k : Nat} (hk : k < d.length) : b < w.heap.size ∧ w.cell? ⟨b, o + k, none⟩ = some (.int .i64 (d.getD k 0)) := by
  obtain ⟨b', o', e, h1, h2⟩ := h.atI hk
  injection e with e
  injection e with e1 e2 _
  subst e1 e2
  exact ⟨h1, by rw [h2, List.getD_eq_getElem?_getD, List.getElem?_eq_getElem hk]; rfl⟩
end Go.Proofs.Ytbjpkfgkmilkdaa

/- Rows picked, placed, copied: the program's way and the reference's. -/
namespace Go.Proofs.Ytbjpkfgkmilkdaa
open Go.RowKit

/-- the values of a row at some columns -/
def pickL (row cols : List Int) : List Int := cols.map fun c => row.getD c.toNat 0
theorem pickL_step {row cols : List Int} {k : Nat} (h : k < cols.length) : pickL row (cols.take (k + 1)) = pickL row (cols.take k) ++ [row.getD cols[k].toNat 0] := by
  unfold pickL
  rw [List.take_succ_eq_append_getElem h, List.map_append]
  rfl
theorem pickL_length (row cols : List Int) : (pickL row cols).length = cols.length := by simp [pickL]
theorem RV.atI' {w : World} {A : Option Addr} {xs : List Int} {n : Nat} (h : RI w A xs) (hk : n < xs.length) : ∃ b o, A = some ⟨b, o, none⟩ ∧ b < w.heap.size ∧ w.cell? ⟨b, o + n, none⟩ = some (.int .i64 (xs.getD n 0)) := by
  rw [getDl _ _ hk]
  exact h.atI hk
def fitsC (a : Int) (cols : List Int) : Bool := decide (cols.length ≤ 5) && cols.all fun c => inB c 0 (a - 1)
theorem fitsC_iff {a : Int} {cols : List Int} : fitsC a cols = true ↔ cols.length ≤ 5 ∧ ∀ v ∈ cols, 0 ≤ v ∧ v < a := by
  unfold fitsC
  rw [Bool.and_eq_true, decide_eq_true_eq, List.all_eq_true]
  refine and_congr_right fun _ => ?_
  constructor
  · intro h v hv; have := inB_t (h v hv); omega
  · intro h v hv; have := h v hv; simp [inB]; omega
/-- where a search by halves stands -/
def PlI (rows : List (List Int)) (row : List Int) (lo hi : Nat) : Prop := AscR rows → (∀ i (_ : i < rows.length), i < lo → cmpL rows[i] row < 0) ∧ ∀ i (_ : i < rows.length), hi ≤ i → ¬ cmpL rows[i] row < 0
theorem PlI.up {rows : List (List Int)} {row : List Int} {lo hi m : Nat} (h : PlI rows row lo hi) (hm : m < rows.length) (hc : cmpL rows[m] row < 0) : PlI rows row (m + 1) hi := fun ha => by
  refine ⟨fun i hi hlt => ?_, (h ha).2⟩
  rcases Nat.lt_or_eq_of_le (Nat.le_of_lt_succ hlt) with k | k
  · exact cmpL_trans (asc_get ha k hm) hc
  · subst k; exact hc
theorem PlI.down {rows : List (List Int)} {row : List Int} {lo hi m : Nat} (h : PlI rows row lo hi) (hm : m < rows.length) (hc : ¬ cmpL rows[m] row < 0) : PlI rows row lo m := fun ha => by
  refine ⟨(h ha).1, fun i hi hle => ?_⟩
  rcases Nat.lt_or_eq_of_le hle with k | k
  · exact fun hl => hc (cmpL_trans (asc_get ha k hi) hl)
  · subst k; exact hc
theorem PlI.start (rows : List (List Int)) (row : List Int) : PlI rows row 0 rows.length := fun _ => ⟨fun i _ h => by omega, fun i h k => by omega⟩
def PlP (rows : List (List Int)) (row : List Int) (w : World) (e : Ending) (w' : World) : Prop :=
  ∃ (k : Nat) (b : Bool), e = .returned (.tuple #[.int .i64 k, .bool b]) ∧ k ≤ rows.length ∧ (AscR rows → b = decide (row ∈ rows)) ∧ PlI rows row k k ∧ ∃ y, w' = ext w y
theorem plp_end {rows : List (List Int)} {row : List Int} {k : Nat} {b : Bool} (h : PlI rows row k k) (hb : b = (decide (k < rows.length) && decide (cmpL (rows.getD k []) row = 0))) : AscR rows → b = decide (row ∈ rows) := fun ha => by
  rw [hb]; exact place_mem ha (h ha).1 (h ha).2
end Go.Proofs.Ytbjpkfgkmilkdaa

/- Names of relations, and lists without repeats; the program's way and the reference's. -/
namespace Go.Proofs.Ytbjpkfgkmilkdaa
open Go.RowKit

def letB (b : UInt8) : Bool := decide (97 ≤ b.toNat ∧ b.toNat ≤ 122)
def nameB (s : ByteArray) : Bool := inB s.size 1 4 && (bl s).all letB
theorem letB_t {b : UInt8} (h : letB b = true) : 97 ≤ (b.toNat : Int) ∧ (b.toNat : Int) ≤ 122 := by simp [letB] at h; omega
theorem letB_f {b : UInt8} (h : ¬ letB b = true) : (b.toNat : Int) < 97 ∨ 122 < (b.toNat : Int) := by simp [letB] at h; omega
theorem lets_step {s : ByteArray} {k : Nat} (h : k < s.size) : ((bl s).drop k).all letB = (letB s[k] && ((bl s).drop (k + 1)).all letB) := by
  rw [List.drop_eq_getElem_cons (by rw [bl_length]; exact h), List.all_cons, bl_get s h]
theorem lets_end {s : ByteArray} {k : Nat} (h : ¬ k < s.size) : ((bl s).drop k).all letB = true := by
  rw [List.drop_eq_nil_of_le (by rw [bl_length]; omega)]; rfl
set_option maxHeartbeats 400000 in
theorem isLetters_any {s : ByteArray} {w : World} (hs : s.size ≤ 1000000000) :
    Calls Try.prog 105 #[.string s, .int .i64 4] w fun e w' => e = .returned (.bool (nameB s)) ∧ w = w' := by
  by_cases h1 : s.size < 1
  · have HE := Lib.hid (show nameB s = false by unfold nameB inB; rw [decide_eq_false (by omega), Bool.false_and])
    go_enter Try.func105, Try.ntmps105
    go_wp2
    go_ret
    exact ⟨by rw [HE.out]; rfl, rfl⟩
  · by_cases h2 : 4 < s.size
    · have HE := Lib.hid (show nameB s = false by unfold nameB inB; rw [decide_eq_false (by omega), Bool.false_and])
      go_enter Try.func105, Try.ntmps105
      go_wp2
      go_ret
      exact ⟨by rw [HE.out]; rfl, rfl⟩
    · have HE := Lib.hid (show nameB s = (bl s).all letB by unfold nameB inB; rw [decide_eq_true (by omega), Bool.true_and])
      go_enter Try.func105, Try.ntmps105
      go_wp2
      go_loop [5] (fun i => ∃ k : Nat, i = .int .i64 k ∧ k ≤ s.size ∧ ((bl s).drop k).all letB = nameB s) (fun i => s.size - (intOf i).toNat)
      case atStart => exact ⟨0, rfl, by omega, by rw [HE.out]; simp⟩
      case round =>
        obtain ⟨k, rfl, hk, hj⟩ := hrel
        have Hj := Lib.hid hj
        clear hj
        by_cases hlt : k < s.size
        · have e := Hj.out
          rw [lets_step hlt] at e
          by_cases hl : letB s[k] = true
          · obtain ⟨q1, q2⟩ := letB_t hl
            rw [hl, Bool.true_and] at e
            have He := Lib.hid e
            clear e hl
            go_wp2
            exact ⟨⟨k + 1, by go_num, by omega, He.out⟩, by simp [intOf]; omega⟩
          · rw [show letB s[k] = false by simpa using hl, Bool.false_and] at e
            have He := Lib.hid e
            rcases letB_f hl with q | q
            all_goals
              clear e hl
              go_wp2
              go_ret
              exact ⟨by rw [← He.out]; rfl, rfl⟩
        · have e := Hj.out
          rw [lets_end hlt] at e
          have He := Lib.hid e
          clear e
          go_wp2
          go_ret
          exact ⟨by rw [← He.out]; rfl, rfl⟩
theorem IsValidName_any {s : ByteArray} {w : World} (hs : s.size ≤ 1000000000) :
    Calls Try.prog 78 #[.string s] w fun e w' => e = .returned (.bool (nameB s)) ∧ w = w' := by
  go_enter Try.func78, Try.ntmps78
  go_wp2_with (go_at_call 105; refine (isLetters_any hs).mono ?_; rintro e w' ⟨rfl, rfl⟩)
  go_ret
  exact ⟨rfl, rfl⟩
set_option maxHeartbeats 400000 in
theorem specIsValidName_any {s : ByteArray} {w : World} (hs : s.size ≤ 1000000000) :
    Calls Try.prog 73 #[.string s] w fun e w' => e = .returned (.bool (nameB s)) ∧ w = w' := by
  go_enter Try.func73, Try.ntmps73
  go_wp2
  go_loop [3] (fun i => ∃ k : Nat, i = .int .i64 k ∧ k ≤ s.size ∧ ((bl s).drop k).all letB = (bl s).all letB) (fun i => s.size - (intOf i).toNat)
  case atStart => exact ⟨0, rfl, by omega, by simp⟩
  case round =>
    obtain ⟨k, rfl, hk, hj⟩ := hrel
    have Hj := Lib.hid hj
    clear hj
    by_cases hlt : k < s.size
    · have e := Hj.out
      rw [lets_step hlt] at e
      by_cases hl : letB s[k] = true
      · obtain ⟨q1, q2⟩ := letB_t hl
        rw [hl, Bool.true_and] at e
        have He := Lib.hid e
        clear e hl
        go_wp2
        exact ⟨⟨k + 1, by go_num, by omega, He.out⟩, by simp [intOf]; omega⟩
      · rw [show letB s[k] = false by simpa using hl, Bool.false_and] at e
        have He := Lib.hid (show nameB s = false by unfold nameB; rw [← e, Bool.and_false])
        rcases letB_f hl with q | q
        all_goals
          clear e hl
          go_wp2
          go_ret
          exact ⟨by rw [He.out]; rfl, rfl⟩
    · have e := Hj.out
      rw [lets_end hlt] at e
      have He := Lib.hid (show nameB s = inB s.size 1 4 by unfold nameB; rw [← e, Bool.and_true])
      clear e
      go_wp2_with (go_at_call 72; refine (l1In_any _ _ _ _).mono ?_; rintro e w' ⟨rfl, rfl⟩)
      go_ret
      exact ⟨by rw [He.out]; rfl, rfl⟩
/-! a list of numbers below n, each at most once -/
def setB (n : Int) : List Int → List Int → Bool
  | _, [] => true
  | pre, x :: xs => inB x 0 (n - 1) && !decide (x ∈ pre) && setB n (pre ++ [x]) xs
theorem setB_step {n : Int} {xs : List Int} {k : Nat} (h : k < xs.length) : setB n (xs.take k) (xs.drop k) = (inB xs[k] 0 (n - 1) && !decide (xs[k] ∈ xs.take k) && setB n (xs.take (k + 1)) (xs.drop (k + 1))) := by
  rw [List.drop_eq_getElem_cons h, setB, List.take_succ_eq_append_getElem h]
theorem setB_end {n : Int} {xs : List Int} {k : Nat} (h : ¬ k < xs.length) : setB n (xs.take k) (xs.drop k) = true := by
  rw [List.drop_eq_nil_of_le (by omega), setB]
theorem setB_sound : ∀ {n : Int} {xs pre : List Int}, setB n pre xs = true → (∀ x ∈ xs, 0 ≤ x ∧ x < n) ∧ xs.Nodup ∧ ∀ x ∈ xs, x ∉ pre
  | n, [], pre, _ => ⟨by simp, by simp, by simp⟩
  | n, x :: xs, pre, h => by
    rw [setB, Bool.and_eq_true, Bool.and_eq_true] at h
    obtain ⟨⟨h1, h2⟩, h3⟩ := h
    have h1 := inB_t h1
    obtain ⟨a, b, c⟩ := setB_sound h3
    refine ⟨?_, ?_, ?_⟩
    · intro y hy
      rcases List.mem_cons.1 hy with e | e
      · subst e; omega
      · exact a y e
    · refine List.nodup_cons.2 ⟨fun hm => ?_, b⟩
      have := c x hm
      simp at this
    · intro y hy
      rcases List.mem_cons.1 hy with e | e
      · subst e; simpa using h2
      · intro hp
        have := c y e
        simp [hp] at this
theorem nodup_len : ∀ (n : Nat) (xs : List Int), xs.Nodup → (∀ x ∈ xs, 0 ≤ x ∧ x < n) → xs.length ≤ n
  | 0, xs, _, h => by
    cases xs with
    | nil => simp
    | cons x xs => have := h x (by simp); omega
  | n + 1, xs, hn, h => by
    by_cases hm : (n : Int) ∈ xs
    · obtain ⟨s, t, rfl⟩ := List.append_of_mem hm
      have hn2 := List.nodup_append.1 hn
      have hn3 := List.nodup_cons.1 hn2.2.1
      have h2 : (s ++ t).Nodup := List.nodup_append.2 ⟨hn2.1, hn3.2, fun a ha b hb => hn2.2.2 a ha b (by simp [hb])⟩
      have := nodup_len n (s ++ t) h2 fun x hx => by
        have h3 := h x (by rcases List.mem_append.1 hx with e | e <;> simp [e])
        have h4 : x ≠ n := by
          rintro rfl
          rcases List.mem_append.1 hx with e | e
          · exact hn2.2.2 _ e _ (by simp) rfl
          · exact hn3.1 e
        omega
      simp at this ⊢
      omega
    · have := nodup_len n xs hn fun x hx => by
        have h3 := h x hx
        have h4 : x ≠ n := by rintro rfl; exact hm hx
        omega
      omega
theorem setB_len {n : Int} {xs : List Int} (h : setB n [] xs = true) (hn : 0 ≤ n) : (xs.length : Int) ≤ n := by
  obtain ⟨a, b, _⟩ := setB_sound h
  have := nodup_len n.toNat xs b fun x hx => by have := a x hx; omega
  omega
theorem RV.pre {w : World} {α : Type} {size : Nat} {E : VE α} {A : Option Addr} {xs : List α} (h : RV size E w A xs) (k : Nat) : RV size E w A (xs.take k) := fun hn => by
  obtain ⟨b, o, h1, h2, h3⟩ := h (by intro e; subst e; simp at hn)
  refine ⟨b, o, h1, h2, fun j hj => ?_⟩
  simp only [List.length_take] at hj
  obtain ⟨c, hc, hr, he⟩ := h3 j (by omega)
  exact ⟨c, hc, hr, by simpa using he⟩
theorem hasInt_n {A : Option Addr} {c m : Nat} {xs : List Int} {n : Int} {w : World} (hm : xs.length = m) (hx : m ≤ 1000000000) (h1 : RI w A xs) :
    Calls Try.prog 104 #[.slice A m c, .int .i64 n] w fun e w' => e = .returned (.bool (decide (n ∈ xs))) ∧ ∃ y, w' = ext w y := by
  subst hm
  exact hasInt_any hx h1
set_option maxHeartbeats 1000000 in
theorem isSetOf_any {A : Option Addr} {c : Nat} {xs : List Int} {n : Int} {w : World} (hx : xs.length ≤ 1000000000) (hcap : xs.length ≤ c) (h1 : RI w A xs) (hn0 : 0 ≤ n) (hn1 : n ≤ 1000) :
    Calls Try.prog 77 #[.slice A xs.length c, .int .i64 n] w fun e w' => e = .returned (.bool (setB n [] xs)) ∧ ∃ y, w' = ext w y := by
  go_enter Try.func77, Try.ntmps77
  go_wp2
  go_loopw [9] (fun i wr => ∃ k : Nat, i = .int .i64 k ∧ k ≤ xs.length ∧ setB n (xs.take k) (xs.drop k) = setB n [] xs ∧ ∃ y, wr = ext w y) (fun i _ => xs.length - (intOf i).toNat)
  case atStart => exact ⟨0, rfl, by omega, by simp, refl_ext w⟩
  case round =>
    obtain ⟨k, rfl, hk, hj, hy⟩ := hrel
    have Hj := Lib.hid hj
    clear hj
    by_cases hlt : k < xs.length
    · have h1' := h1.toExt hy
      obtain ⟨b, o, rfl, hb, hc⟩ := h1'.atI hlt
      have e := Hj.out
      rw [setB_step hlt] at e
      obtain ⟨t1, ht1⟩ : ∃ t, inB xs[k] 0 (n - 1) = t := ⟨_, rfl⟩
      obtain ⟨t2, ht2⟩ : ∃ t, decide (xs[k] ∈ xs.take k) = t := ⟨_, rfl⟩
      rw [ht1, ht2] at e
      have T1 := Lib.hid ht1
      have T2 := Lib.hid ht2
      have He := Lib.hid e
      have hp := h1'.pre k
      have hpl : (xs.take k).length = k := by simp; omega
      have HP := Lib.hid hpl
      clear e ht1 ht2 hpl
      cases t1 with
      | false =>
        go_wp2_with (go_at_call 76; refine (within_any _ _ _ _).mono ?_; rintro e w' ⟨rfl, rfl⟩; rw [T1.out])
        go_ret
        exact ⟨by rw [← He.out]; rfl, hy⟩
      | true =>
        cases t2 with
        | true =>
          go_wp2_with (first
            | (go_at_call 76; refine (within_any _ _ _ _).mono ?_; rintro e w' ⟨rfl, rfl⟩; rw [T1.out])
            | (go_at_call 104; refine (hasInt_n HP.out (by omega) hp).mono ?_; rintro e w' ⟨rfl, hx1⟩; rw [T2.out]))
          go_ret
          exact ⟨by rw [← He.out]; rfl, (by refine Chg.isExt (F := []) ?_ (refl_ext _) (by simp); repeat (with_reducible (first | exact Chg.refl _ _ | exact Nat.le_refl _ | exact Chg.ofExt (by assumption) | refine Chg.trans0 ?_ (by assumption) | refine Chg.extS ?_ _ | refine Chg.alloc ?_ _ | refine Chg.drew ?_ | refine Chg.setCellE ?_ ?_ _ | refine le_addk ?_ _ | refine le_ext ?_ | refine le_alloc ?_ _ | refine le_setC ?_ _ _ | refine le_drew ?_ | assumption | (refine Nat.le_of_lt ?_; omega) | omega)))⟩
        | false =>
          go_wp2_with (first
            | (go_at_call 76; refine (within_any _ _ _ _).mono ?_; rintro e w' ⟨rfl, rfl⟩; rw [T1.out])
            | (go_at_call 104; refine (hasInt_n HP.out (by omega) hp).mono ?_; rintro e w' ⟨rfl, hx1⟩; rw [T2.out]))
          exact ⟨⟨k + 1, by go_num, by omega, by simpa using He.out, (by refine Chg.isExt (F := []) ?_ (refl_ext _) (by simp); repeat (with_reducible (first | exact Chg.refl _ _ | exact Nat.le_refl _ | exact Chg.ofExt (by assumption) | refine Chg.trans0 ?_ (by assumption) | refine Chg.extS ?_ _ | refine Chg.alloc ?_ _ | refine Chg.drew ?_ | refine Chg.setCellE ?_ ?_ _ | refine le_addk ?_ _ | refine le_ext ?_ | refine le_alloc ?_ _ | refine le_setC ?_ _ _ | refine le_drew ?_ | assumption | (refine Nat.le_of_lt ?_; omega) | omega)))⟩, by simp [intOf]; omega⟩
    · have e := Hj.out
      rw [setB_end hlt] at e
      have He := Lib.hid e
      clear e
      go_wp2
      go_ret
      exact ⟨by rw [← He.out]; rfl, hy⟩
set_option maxHeartbeats 400000 in
theorem l7Find_any {A : Option Addr} {c : Nat} {xs : List Int} {n : Int} {w : World} (hx : xs.length ≤ 1000000000) (h1 : RI w A xs) :
    Calls Try.prog 75 #[.slice A xs.length c, .int .i64 n] w fun e w' => e = .returned (.int .i64 (iof 0 n xs)) ∧ ∃ y, w' = ext w y := by
  go_enter Try.func75, Try.ntmps75
  go_wp2
  go_loop [5] (fun i => ∃ k : Nat, i = .int .i64 k ∧ k ≤ xs.length ∧ iof k n (xs.drop k) = iof 0 n xs) (fun i => xs.length - (intOf i).toNat)
  case atStart => exact ⟨0, rfl, by omega, by simp⟩
  case round =>
    obtain ⟨k, rfl, hk, hj⟩ := hrel
    have Hj := Lib.hid hj
    clear hj
    by_cases hlt : k < xs.length
    · obtain ⟨b, o, rfl, hb, hc⟩ := h1.atI hlt
      go_wp2
      · go_ret
        have e := Hj.out
        rw [iof_step hlt, if_pos (by simpa using ‹(xs[k] == n) = true›)] at e
        exact ⟨by rw [← e]; rfl, refl_ext w⟩
      · have e := Hj.out
        rw [iof_step hlt, if_neg (by simpa using ‹(xs[k] == n) = false›)] at e
        exact ⟨⟨k + 1, by go_num, by omega, e⟩, by simp [intOf]; omega⟩
    · go_wp2
      go_ret
      have e := Hj.out
      rw [List.drop_eq_nil_of_le (by omega)] at e
      exact ⟨by rw [← e]; rfl, refl_ext w⟩
end Go.Proofs.Ytbjpkfgkmilkdaa

/- Databases: when they are valid; tables found and put. No program in it. -/
namespace Go.Proofs.Ytbjpkfgkmilkdaa
open Go.RowKit

abbrev Td := ByteArray × Rd
abbrev Dbd := List Td
/-- the order of texts -/
def sLt (a b : ByteArray) : Bool := Op.bytesLess a.toList b.toList
theorem bl_irr : ∀ l : List UInt8, Op.bytesLess l l = false
  | [] => rfl
  | a :: l => by simp [Op.bytesLess, bl_irr l]
theorem bl_trans : ∀ {a b c : List UInt8}, Op.bytesLess a b = true → Op.bytesLess b c = true → Op.bytesLess a c = true
  | _, [], _, h, _ => by simp [Op.bytesLess] at h
  | _, _ :: _, [], _, k => by simp [Op.bytesLess] at k
  | [], _ :: _, _ :: _, _, _ => by simp [Op.bytesLess]
  | a :: x, b :: y, c :: z, h, k => by
    simp only [Op.bytesLess, Bool.or_eq_true, decide_eq_true_eq, Bool.and_eq_true, beq_iff_eq] at h k ⊢
    rcases h with h | ⟨rfl, h⟩
    · rcases k with k | ⟨rfl, k⟩
      · exact .inl (UInt8.lt_trans h k)
      · exact .inl h
    · rcases k with k | ⟨rfl, k⟩
      · exact .inl k
      · exact .inr ⟨rfl, bl_trans h k⟩
theorem bl_tot : ∀ {a b : List UInt8}, Op.bytesLess a b = false → Op.bytesLess b a = false → a = b
  | [], [], _, _ => rfl
  | [], _ :: _, h, _ => by simp [Op.bytesLess] at h
  | _ :: _, [], _, h => by simp [Op.bytesLess] at h
  | a :: x, b :: y, h, k => by
    simp only [Op.bytesLess, Bool.or_eq_false_iff, decide_eq_false_iff_not, Bool.and_eq_false_iff, beq_eq_false_iff_ne] at h k
    have e : a = b := by
      apply UInt8.toNat_inj.1
      have h1 := h.1
      have k1 := k.1
      rw [UInt8.lt_iff_toNat_lt] at h1 k1
      omega
    subst e
    rw [bl_tot (a := x) (b := y)]
    · rcases h.2 with h | h
      · exact absurd rfl h
      · exact h
    · rcases k.2 with h | h
      · exact absurd rfl h
      · exact h
theorem ba_toList_inj {s t : ByteArray} (e : s.toList = t.toList) : s = t := by
  rw [ByteArray.toList_eq, ByteArray.toList_eq] at e
  exact Go.WideShapes.bytes_inj e
theorem sLt_irr (a : ByteArray) : sLt a a = false := bl_irr _
theorem sLt_trans {a b c : ByteArray} (h : sLt a b = true) (k : sLt b c = true) : sLt a c = true := bl_trans h k
theorem sLt_tot {a b : ByteArray} (h : sLt a b = false) (k : sLt b a = false) : a = b := ba_toList_inj (bl_tot h k)
theorem sLt_ne {a b : ByteArray} (h : sLt a b = true) : a ≠ b := by rintro rfl; rw [sLt_irr] at h; cases h
theorem sLt_anti {a b : ByteArray} (h : sLt a b = true) : sLt b a = false := by
  cases k : sLt b a with
  | false => rfl
  | true => have := sLt_trans h k; rw [sLt_irr] at this; cases this

def zT : Td := (⟨#[]⟩, 0, [])
def tOk (d : Dbd) (i : Nat) : Bool := nameB (d.getD i zT).1 && (decide (i = 0) || sLt (d.getD (i - 1) zT).1 (d.getD i zT).1) && rowsB (d.getD i zT).2.1 (d.getD i zT).2.2 && decide (1 ≤ (d.getD i zT).2.1) && decide ((d.getD i zT).2.2.length ≤ 16)
def dbB (d : Dbd) : Bool := decide (d.length ≤ 6) && allN (tOk d) d.length 0
structure TOk (t : Td) : Prop where
  nm : nameB t.1 = true
  rel : rowsB t.2.1 t.2.2 = true
  ar : 1 ≤ t.2.1
  cnt : t.2.2.length ≤ 16
def AscT (d : Dbd) : Prop := d.Pairwise fun x y => sLt x.1 y.1 = true
theorem dbB_iff {d : Dbd} : dbB d = true ↔ d.length ≤ 6 ∧ (∀ t ∈ d, TOk t) ∧ AscT d := by
  unfold dbB
  rw [Bool.and_eq_true, decide_eq_true_eq, allN_true]
  refine and_congr_right fun _ => ?_
  constructor
  · intro h
    refine ⟨fun t ht => ?_, ?_⟩
    · obtain ⟨i, hi, rfl⟩ := List.getElem_of_mem ht
      have := h i (by omega) (by omega)
      unfold tOk at this
      rw [getDl _ _ hi] at this
      simp only [Bool.and_eq_true, decide_eq_true_eq] at this
      exact ⟨this.1.1.1.1, this.1.1.2, this.1.2, this.2⟩
    · have hn : ∀ i (h : i + 1 < d.length), sLt d[i].1 d[i + 1].1 = true := fun i hi => by
        have := h (i + 1) (by omega) (by omega)
        unfold tOk at this
        rw [getDl _ _ hi, show i + 1 - 1 = i by omega, getDl _ _ (show i < d.length by omega)] at this
        simp only [Bool.and_eq_true, Bool.or_eq_true, decide_eq_true_eq] at this
        rcases this.1.1.1.2 with k | k
        · omega
        · exact k
      unfold AscT
      rw [List.pairwise_iff_getElem]
      intro i j hi hj hij
      obtain ⟨e, rfl⟩ : ∃ e, j = i + 1 + e := ⟨j - i - 1, by omega⟩
      induction e with
      | zero => exact hn i hj
      | succ e ih => exact sLt_trans (ih (by omega) (by omega)) (hn (i + 1 + e) hj)
  · rintro ⟨h1, h2⟩ i _ hi
    rw [Nat.zero_add] at hi
    unfold tOk
    have h3 := h1 _ (List.getElem_mem hi)
    rw [getDl _ _ hi]
    simp only [Bool.and_eq_true, decide_eq_true_eq, Bool.or_eq_true]
    refine ⟨⟨⟨⟨h3.nm, ?_⟩, h3.rel⟩, h3.ar⟩, h3.cnt⟩
    rcases Nat.eq_zero_or_pos i with h4 | h4
    · exact .inl h4
    · right
      rw [getDl _ _ (show i - 1 < d.length by omega)]
      exact List.pairwise_iff_getElem.1 h2 (i - 1) i (by omega) hi (by omega)

def fndD (name : ByteArray) : Dbd → Option Rd
  | [] => none
  | t :: d => if t.1 = name then some t.2 else fndD name d
theorem fndD_step {name : ByteArray} {d : Dbd} {k : Nat} (h : k < d.length) : fndD name (d.drop k) = if d[k].1 = name then some d[k].2 else fndD name (d.drop (k + 1)) := by
  rw [List.drop_eq_getElem_cons h, fndD]
theorem fndD_end {name : ByteArray} {d : Dbd} {k : Nat} (h : ¬ k < d.length) : fndD name (d.drop k) = none := by
  rw [List.drop_eq_nil_of_le (by omega), fndD]
def lookD (d : Dbd) (name : ByteArray) : Option Rd := if dbB d = true then fndD name d else none
theorem fndD_mem {name : ByteArray} : ∀ {d : Dbd} {r : Rd}, fndD name d = some r → (name, r) ∈ d
  | [], r, h => by simp [fndD] at h
  | t :: d, r, h => by
    rw [fndD] at h
    split at h
    · rename_i e
      injection h with h
      subst e h
      simp
    · exact List.mem_cons_of_mem _ (fndD_mem h)
theorem lookD_ok {d : Dbd} {name : ByteArray} {r : Rd} (h : lookD d name = some r) : dbB d = true ∧ TOk (name, r) := by
  unfold lookD at h
  split at h
  · rename_i hv
    exact ⟨hv, (dbB_iff.1 hv).2.1 _ (fndD_mem h)⟩
  · cases h

/-- the table put into its place -/
def insT (name : ByteArray) (r : Rd) : Dbd → Dbd
  | [] => [(name, r)]
  | t :: d => if sLt t.1 name = true then t :: insT name r d else if t.1 = name then (name, r) :: d else (name, r) :: t :: d
def setD (d : Dbd) (name : ByteArray) (r : Rd) : Dbd × Bool := if dbB d = true ∧ dbB (insT name r d) = true then (insT name r d, true) else (d, false)
/-- the reference's way -/
def sIns (name : ByteArray) (r : Rd) : Bool → Dbd → Dbd
  | put, [] => if put = true then [] else [(name, r)]
  | put, t :: d => (if put = false ∧ sLt t.1 name = false then [(name, r)] else []) ++ (if t.1 = name then [] else [t]) ++ sIns name r (put || !sLt t.1 name) d
theorem sIns_put {name : ByteArray} {r : Rd} : ∀ {d : Dbd}, (∀ t ∈ d, sLt name t.1 = true) → sIns name r true d = d
  | [], _ => by simp [sIns]
  | t :: d, h => by
    rw [sIns, Bool.true_or, sIns_put (d := d) (fun u hu => h u (by simp [hu])), if_neg (by simp), if_neg (fun e => by have := h t (by simp); rw [e, sLt_irr] at this; cases this)]
    rfl
theorem sIns_eq {name : ByteArray} {r : Rd} : ∀ {d : Dbd}, AscT d → sIns name r false d = insT name r d
  | [], _ => by simp [sIns, insT]
  | t :: d, h => by
    unfold AscT at h
    rw [List.pairwise_cons] at h
    rw [sIns, insT]
    by_cases h1 : sLt t.1 name = true
    · rw [if_neg (by simp [h1]), if_pos h1, if_neg (sLt_ne h1), h1]
      rw [show (false || !true) = false from rfl, sIns_eq h.2]
      rfl
    · have h1' : sLt t.1 name = false := by simpa using h1
      rw [if_pos ⟨rfl, h1'⟩, if_neg h1, h1']
      rw [show (false || !false) = true from rfl]
      by_cases h2 : t.1 = name
      · rw [if_pos h2, if_pos h2, sIns_put (fun u hu => h2 ▸ h.1 u hu)]
        rfl
      · rw [if_neg h2, if_neg h2]
        have h3 : sLt name t.1 = true := by
          cases k : sLt name t.1 with
          | true => rfl
          | false => exact absurd (sLt_tot h1' k) h2
        rw [sIns_put (fun u hu => sLt_trans h3 (h.1 u hu))]
        rfl
end Go.Proofs.Ytbjpkfgkmilkdaa

/- The laws' helpers on lists of atoms: the size, a copy, equality, marks written. -/
namespace Go.Proofs.Ytbjpkfgkmilkdaa
open Go.RowKit

abbrev At := ByteArray × List Int
theorem conv1m (w : World) (b o cap : Nat) (n : Int) (h : w.cell? ⟨b, o, none⟩ = some (.int .u8 n)) : (convert 37 9 (.slice (some ⟨b, o, none⟩) 1 cap)).run Try.prog w = .ok (.string (bs [UInt8.ofNat n.toNat])) w :=
  run_convert_bytes_arg w _ _ Try.underlying37 Try.underlying5 b o 1 cap [n] rfl (fun i hi => by
    have : i = 0 := by omega
    subst this
    simpa using h) _ Try.underlying9
def mtx (k : Int) : ByteArray := if k ≤ 0 then ⟨#[109, 48]⟩ else bs (109 :: dec k.toNat)
abbrev vAt : VE At := vP 1 vS (vSl 1 vI)
abbrev sAt : SE At := sP 1 sS (sSl 3 1 sI)
abbrev vAts : VE (List At) := vSl 2 vAt
abbrev sAts : SE (List At) := sSl 89 2 sAt
theorem sAt_v {w : World} (c : List Value) (d : At) (F : List Nat) (h : sAt w c d F) : vAt w c d := sP_v sS_v (sSl_v sI_v) c d F h
theorem sAts_v {w : World} (c : List Value) (d : List At) (F : List Nat) (h : sAts w c d F) : vAts w c d := sSl_v sAt_v c d F h
def QAt (d : At) : Prop := d.1.size ≤ maxLen ∧ d.2.length ≤ maxLen
def QAts (d : List At) : Prop := d.length ≤ maxLen ∧ ∀ x ∈ d, QAt x
def cAt (x : At) : Nat := x.1.size + x.2.length
def BAts (d : List At) : Prop := d.length ≤ 1048576 ∧ (d.map cAt).sum ≤ 1048576
theorem BAts.each {d : List At} (h : BAts d) : ∀ x ∈ d, x.1.size ≤ 1048576 ∧ x.2.length ≤ 1048576 := fun x hx => by
  have h1 := sum_each (c := cAt) hx
  have h2 := h.2
  unfold cAt at h1 h2
  omega
def szAt (l : Int) (x : At) : Int := szA l x.1.size x.2.length
theorem szAt_sub (l : Int) (x : At) (h : 0 ≤ szAt l x) : szAt l x ≤ l - cAt x := by
  unfold szAt szA at h ⊢
  split at h
  · omega
  · rename_i h1
    rw [if_neg h1]
    have := szL_sub h
    unfold cAt
    omega
theorem szAts_le {left : Int} {xs : List At} (h : 0 ≤ szN szAt left xs) : szN szAt left xs ≤ left := szN_le (fun l x h => by have := szAt_sub l x h; omega) h
theorem szAts_small {left : Int} {xs : List At} (h : 0 ≤ szN szAt left xs) (hl : left ≤ 1048576) : BAts xs := by
  have := szN_small (c := cAt) szAt_sub h
  exact ⟨by omega, by omega⟩
theorem RV.atA {w : World} {A : Option Addr} {d : List At} {k : Nat} (h : RV 2 vAt w A d) (hk : k < d.length) : ∃ b o A' c', A = some ⟨b, o, none⟩ ∧ b < w.heap.size ∧ w.cell? ⟨b, o + k * 2, none⟩ = some (.string d[k].1) ∧ w.cell? ⟨b, o + k * 2 + 1, none⟩ = some (.slice A' d[k].2.length c') ∧ RI w A' d[k].2 := by
  obtain ⟨b, o, h1, h2, c, hc, hr, c0, c1, e, _, hs, A', c', rfl, hv⟩ := h.get hk
  simp only [vS] at hs
  subst hs e
  exact ⟨b, o, A', _, h1, h2, by simpa using hr 0 (by simp), by simpa using hr 1 (by simp), hv⟩
theorem vAts_get {w : World} {A : Option Addr} {n c : Nat} {d : List At} (h : vAts w [.slice A n c] d) : n = d.length ∧ RV 2 vAt w A d := by
  obtain ⟨A', c', e, h⟩ := h
  injection e with e
  injection e with e1 e2 e3
  subst e1
  exact ⟨e2, h⟩
theorem tA : SlT Try.prog 41 89 2 40 (.agg #[.string ⟨#[]⟩, .slice none 0 0]) := ⟨Try.underlying41, by kernel_rfl, rfl, by omega⟩
theorem sAts_form {w : World} {v : Value} {d : List At} {F : List Nat} (h : sAts w [v] d F) : ∃ A c, v = .slice A d.length c := by
  obtain ⟨v', e, h⟩ := h
  injection e with e
  subst e
  obtain ⟨A, c, e, _⟩ := h.form
  exact ⟨A, c, e⟩
end Go.Proofs.Ytbjpkfgkmilkdaa

/- The laws' helpers on queries: the size, a copy, equality. -/
namespace Go.Proofs.Ytbjpkfgkmilkdaa
open Go.RowKit

abbrev Qd := Int × (List At × List Int)
abbrev vQ : VE Qd := vP 1 vI (vP 1 vAts (vSl 1 vI))
abbrev sQ : SE Qd := sP 1 sI (sP 1 sAts (sSl 3 1 sI))
theorem sQ_v {w : World} (c : List Value) (d : Qd) (F : List Nat) (h : sQ w c d F) : vQ w c d := sP_v sI_v (sP_v sAts_v (sSl_v sI_v)) c d F h
def QQ (d : Qd) : Prop := I64 d.1 ∧ QAts d.2.1 ∧ d.2.2.length ≤ maxLen
def BQ (d : Qd) : Prop := I64 d.1 ∧ BAts d.2.1 ∧ d.2.2.length ≤ 1048576
/-- bounds as they are asked for by what only reads -/
def WQ (d : Qd) : Prop := I64 d.1 ∧ (d.2.1.length ≤ 4194304 ∧ ∀ x ∈ d.2.1, x.1.size ≤ 4194304 ∧ x.2.length ≤ 4194304) ∧ d.2.2.length ≤ 4194304
theorem BQ.w {d : Qd} (h : BQ d) : WQ d := ⟨h.1, ⟨by have := h.2.1.1; omega, fun x hx => by have := h.2.1.each x hx; omega⟩, by have := h.2.2; omega⟩
def szQ (left : Int) (d : Qd) : Int := if szN szAt left d.2.1 < 0 then -1 else szL (szN szAt left d.2.1) d.2.2.length
theorem szL_neg {l : Int} {n : Nat} (h : szL l n < 0) : szL l n = -1 := by
  unfold szL at h ⊢
  split
  · rfl
  · rename_i h1; rw [if_neg h1] at h; omega
theorem szQ_parts {left : Int} {d : Qd} (h : 0 ≤ szQ left d) : 0 ≤ szN szAt left d.2.1 ∧ 0 ≤ szL (szN szAt left d.2.1) d.2.2.length ∧ szQ left d = szL (szN szAt left d.2.1) d.2.2.length := by
  unfold szQ at h ⊢
  split at h
  · omega
  · rename_i h1
    rw [if_neg h1]
    exact ⟨by omega, h, rfl⟩
theorem szQ_le {left : Int} {d : Qd} (h : 0 ≤ szQ left d) : szQ left d ≤ left := by
  obtain ⟨h1, h2, e⟩ := szQ_parts h
  rw [e]
  have := szAts_le h1
  have := szL_le h2
  omega
theorem szQ_small {left : Int} {d : Qd} (hq : I64 d.1) (h : 0 ≤ szQ left d) (hl : left ≤ 1048576) : BQ d := by
  obtain ⟨h1, h2, _⟩ := szQ_parts h
  have := szAts_le h1
  have := szL_small h2
  exact ⟨hq, szAts_small h1 hl, by omega⟩
theorem vQ_shape {w : World} {c : List Value} {d : Qd} (h : vQ w c d) : ∃ A a B b, c = [.int .i64 d.1, .slice A d.2.1.length a, .slice B d.2.2.length b] := by
  obtain ⟨c0, c1, e0, h0, h1, c2, c3, e1, h2, ⟨A2, d2, rfl, k2⟩, A3, d3, rfl, k3⟩ := h
  simp only [vI] at h1
  subst e1 h1
  exact ⟨_, _, _, _, e0⟩
theorem vQ_get {w : World} {A B : Option Addr} {c e : Nat} {n m : Nat} {z : Int} {d : Qd} (h : vQ w [.int .i64 z, .slice A n c, .slice B m e] d) : vAts w [.slice A n c] d.2.1 ∧ RI w B d.2.2 ∧ d.2.2.length ≤ e := by
  obtain ⟨c0, c1, e0, h0, h1, c2, c3, e1, h2, ⟨A2, d2, rfl, k2⟩, A3, d3, rfl, k3⟩ := h
  simp only [vI] at h1
  subst e1 h1
  simp only [List.cons_append, List.nil_append, List.cons.injEq, Value.slice.injEq, and_true] at e0
  obtain ⟨q0, ⟨q1, q2, q3⟩, q4, q5, q6⟩ := e0
  subst q1 q2 q3 q4 q5 q6
  exact ⟨⟨_, _, rfl, k2⟩, k3, by omega⟩
theorem sQ_form {w : World} {v0 v1 v2 : Value} {d : Qd} {F : List Nat} (h : sQ w [v0, v1, v2] d F) : ∃ A c B e, v0 = .int .i64 d.1 ∧ v1 = .slice A d.2.1.length c ∧ v2 = .slice B d.2.2.length e := by
  obtain ⟨c0, c1, F0, F1, e0, h0, ⟨h1, _⟩, ⟨c2, c3, F2, F3, e1, h2, ⟨u1, rfl, h3⟩, ⟨u2, rfl, h4⟩, _⟩, _⟩ := h
  subst e1 h1
  simp only [List.cons_append, List.nil_append, List.cons.injEq, and_true] at e0
  obtain ⟨rfl, rfl, rfl⟩ := e0
  obtain ⟨A, c, rfl, _⟩ := h3.form
  obtain ⟨B, e, rfl, _⟩ := h4.form
  exact ⟨A, c, B, e, rfl, rfl, rfl⟩
end Go.Proofs.Ytbjpkfgkmilkdaa

/- Whether a query is valid; the program's way and the reference's. -/
namespace Go.Proofs.Ytbjpkfgkmilkdaa
open Go.RowKit

def atomB (n : Int) (x : At) : Bool := nameB x.1 && inB x.2.length 1 5 && x.2.all fun v => inB v 0 (n - 1)
def seen (ats : List At) : List Int := ats.flatMap (·.2)
def mkU (n : Nat) (s : List Int) : List Bool := (List.range n).map fun (v : Nat) => decide ((v : Int) ∈ s)
def coverB (n : Int) (ats : List At) : Bool := (mkU n.toNat (seen ats)).all id
def vqB (d : Qd) : Bool := inB d.1 1 5 && inB d.2.1.length 1 4 && setB d.1 [] d.2.2 && d.2.1.all (atomB d.1) && coverB d.1 d.2.1
@[simp] theorem mkU_length (n : Nat) (s : List Int) : (mkU n s).length = n := by simp [mkU]
theorem mkU_nil (n : Nat) : mkU n [] = List.replicate n false := by
  unfold mkU
  apply List.ext_getElem
  · simp
  · intro i h1 h2
    simp
theorem mkU_set {n : Nat} {s : List Int} {v : Int} (h0 : 0 ≤ v) : (mkU n s).set v.toNat true = mkU n (s ++ [v]) := by
  apply List.ext_getElem
  · simp
  · intro i h1 h2
    rw [List.getElem_set]
    unfold mkU
    simp only [List.getElem_map, List.getElem_range, List.mem_append, List.mem_singleton]
    split
    · rename_i h
      subst h
      simp
      right; omega
    · rename_i h
      have : ¬ ((i : Int) = v) := by rintro rfl; exact h (by simp)
      simp [this]
theorem seen_take {ats : List At} {k : Nat} (h : k < ats.length) : seen (ats.take (k + 1)) = seen (ats.take k) ++ ats[k].2 := by
  unfold seen
  rw [List.take_succ_eq_append_getElem h, List.flatMap_append]
  simp
theorem allA_step {α : Type} {p : α → Bool} {xs : List α} {k : Nat} (h : k < xs.length) : (xs.drop k).all p = (p xs[k] && (xs.drop (k + 1)).all p) := by
  rw [List.drop_eq_getElem_cons h, List.all_cons]
theorem allA_end {α : Type} {p : α → Bool} {xs : List α} {k : Nat} (h : ¬ k < xs.length) : (xs.drop k).all p = true := by
  rw [List.drop_eq_nil_of_le (by omega)]; rfl
theorem tB : SlT Try.prog 101 4 1 1 (.bool false) := ⟨Try.underlying101, by kernel_rfl, rfl, by omega⟩
set_option maxRecDepth 4000 in
set_option maxHeartbeats 4000000 in
theorem IsValidQuery_w {A B : Option Addr} {c e1 : Nat} {d : Qd} {w : World} (hb : WQ d) (h : vQ w [.int .i64 d.1, .slice A d.2.1.length c, .slice B d.2.2.length e1] d) :
    Calls Try.prog 29 #[.agg #[.int .i64 d.1, .slice A d.2.1.length c, .slice B d.2.2.length e1]] w fun e w' => e = .returned (.bool (vqB d)) ∧ ∃ y, w' = ext w y := by
  obtain ⟨r1, r2, hcap⟩ := vQ_get h
  obtain ⟨hz, b1, b2⟩ := hb
  obtain ⟨z, ats, out⟩ := d
  dsimp only at r1 r2 hcap hz b1 b2 ⊢
  have r1 := (vAts_get r1).2
  have m2 : out.length ≤ 1000000000 := by omega
  have b4 := b1.1
  have Hx := Lib.hid b1.2
  clear h b1
  obtain ⟨t1, ht1⟩ : ∃ t, inB z 1 5 = t := ⟨_, rfl⟩
  obtain ⟨t2, ht2⟩ : ∃ t, inB ats.length 1 4 = t := ⟨_, rfl⟩
  obtain ⟨t3, ht3⟩ : ∃ t, setB z [] out = t := ⟨_, rfl⟩
  have N1 := Lib.hid ht1
  have N2 := Lib.hid ht2
  have N3 := Lib.hid ht3
  have HE := Lib.hid (show vqB (z, ats, out) = (t1 && t2 && t3 && ats.all (atomB z) && coverB z ats) by unfold vqB; rw [ht1, ht2, ht3])
  clear ht1 ht2 ht3
  cases t1 with
  | false =>
    go_enter Try.func29, Try.ntmps29
    go_wp2_with (go_at_call 76; refine (within_any _ _ _ _).mono ?_; rintro e w' ⟨rfl, rfl⟩; (first | rw [N1.out] | rw [N2.out]))
    go_ret
    exact ⟨by rw [HE.out]; rfl, (by refine Chg.isExt (F := []) ?_ (refl_ext _) (by simp); repeat (with_reducible (first | exact Chg.refl _ _ | exact Nat.le_refl _ | exact Chg.ofExt (by assumption) | refine Chg.trans0 ?_ (by assumption) | refine Chg.extS ?_ _ | refine Chg.alloc ?_ _ | refine Chg.drew ?_ | refine Chg.setCellE ?_ ?_ _ | refine le_addk ?_ _ | refine le_ext ?_ | refine le_alloc ?_ _ | refine le_setC ?_ _ _ | refine le_drew ?_ | assumption | (refine Nat.le_of_lt ?_; omega) | omega)))⟩
  | true =>
    have hn := inB_t N1.out
    obtain ⟨n, rfl⟩ : ∃ n : Nat, z = n := ⟨z.toNat, by omega⟩
    have hn1 : n ≤ 5 := by omega
    have hn2 : 1 ≤ n := by omega
    clear hn hz
    cases t2 with
    | false =>
      go_enter Try.func29, Try.ntmps29
      go_wp2_with (go_at_call 76; refine (within_any _ _ _ _).mono ?_; rintro e w' ⟨rfl, rfl⟩; (first | rw [N1.out] | rw [N2.out]))
      go_ret
      exact ⟨by rw [HE.out]; rfl, (by refine Chg.isExt (F := []) ?_ (refl_ext _) (by simp); repeat (with_reducible (first | exact Chg.refl _ _ | exact Nat.le_refl _ | exact Chg.ofExt (by assumption) | refine Chg.trans0 ?_ (by assumption) | refine Chg.extS ?_ _ | refine Chg.alloc ?_ _ | refine Chg.drew ?_ | refine Chg.setCellE ?_ ?_ _ | refine le_addk ?_ _ | refine le_ext ?_ | refine le_alloc ?_ _ | refine le_setC ?_ _ _ | refine le_drew ?_ | assumption | (refine Nat.le_of_lt ?_; omega) | omega)))⟩
    | true =>
      cases t3 with
      | false =>
        go_enter Try.func29, Try.ntmps29
        go_wp2_with (first
          | (go_at_call 76; refine (within_any _ _ _ _).mono ?_; rintro e w' ⟨rfl, rfl⟩; (first | rw [N1.out] | rw [N2.out]))
          | (go_at_call 77; refine (isSetOf_any m2 hcap (r2.toExt (by refine Chg.isExt (F := []) ?_ (refl_ext _) (by simp); repeat (with_reducible (first | exact Chg.refl _ _ | exact Nat.le_refl _ | exact Chg.ofExt (by assumption) | refine Chg.trans0 ?_ (by assumption) | refine Chg.extS ?_ _ | refine Chg.alloc ?_ _ | refine Chg.drew ?_ | refine Chg.setCellE ?_ ?_ _ | refine le_addk ?_ _ | refine le_ext ?_ | refine le_alloc ?_ _ | refine le_setC ?_ _ _ | refine le_drew ?_ | assumption | (refine Nat.le_of_lt ?_; omega) | omega)))) (by omega) (by omega)).mono ?_; rintro e w1 ⟨rfl, y1, rfl⟩; rw [N3.out]))
        go_ret
        exact ⟨by rw [HE.out]; rfl, (by refine Chg.isExt (F := []) ?_ (refl_ext _) (by simp); repeat (with_reducible (first | exact Chg.refl _ _ | exact Nat.le_refl _ | exact Chg.ofExt (by assumption) | refine Chg.trans0 ?_ (by assumption) | refine Chg.extS ?_ _ | refine Chg.alloc ?_ _ | refine Chg.drew ?_ | refine Chg.setCellE ?_ ?_ _ | refine le_addk ?_ _ | refine le_ext ?_ | refine le_alloc ?_ _ | refine le_setC ?_ _ _ | refine le_drew ?_ | assumption | (refine Nat.le_of_lt ?_; omega) | omega)))⟩
      | true =>
        have HF := Lib.hid (show ats.all (atomB n) = false → vqB ((n : Int), ats, out) = false by rw [HE.out]; intro h; rw [h]; rfl)
        have HT := Lib.hid (show ats.all (atomB n) = true → vqB ((n : Int), ats, out) = (mkU n (seen ats)).all id by rw [HE.out]; intro h; rw [h]; rfl)
        have HU0 := Lib.hid (mkU_nil n)
        go_enter Try.func29, Try.ntmps29
        go_wp2_with (first
          | (go_at_call 76; refine (within_any _ _ _ _).mono ?_; rintro e w' ⟨rfl, rfl⟩; (first | rw [N1.out] | rw [N2.out]))
          | (go_at_call 77; refine (isSetOf_any m2 hcap (r2.toExt (by refine Chg.isExt (F := []) ?_ (refl_ext _) (by simp); repeat (with_reducible (first | exact Chg.refl _ _ | exact Nat.le_refl _ | exact Chg.ofExt (by assumption) | refine Chg.trans0 ?_ (by assumption) | refine Chg.extS ?_ _ | refine Chg.alloc ?_ _ | refine Chg.drew ?_ | refine Chg.setCellE ?_ ?_ _ | refine le_addk ?_ _ | refine le_ext ?_ | refine le_alloc ?_ _ | refine le_setC ?_ _ _ | refine le_drew ?_ | assumption | (refine Nat.le_of_lt ?_; omega) | omega)))) (by omega) (by omega)).mono ?_; rintro e w1 ⟨rfl, hx1⟩; rw [N3.out]; have P1 := (BoxAt.new w #[.int .i64 (n : Int), .slice A ats.length c, .slice B out.length e1] 44).toExt hx1; obtain ⟨l1, a1, a1', a1'', f1⟩ := box3 P1)
          | (at_make; refine wpList_makeS (E := sB) (d := false) (n := n) _ rfl _ _ _ rfl tB rfl rfl (fun _ => ⟨rfl, rfl⟩) (by omega) (by omega) ?_; intro w2 hS hx2 hg2; have P2 := P1.toExt hx2; obtain ⟨l2, a2, a2', a2'', f2⟩ := box3 P2))
        have hg1 := size_of_ext hx1
        simp only [World.size_alloc] at hg1
        rw [← HU0.out] at hS
        go_loopw [35] (fun i wr => ∃ k : Nat, i = .int .i64 k ∧ k ≤ ats.length ∧ SV 4 1 sB wr (.slice (some ⟨w1.heap.size, 0, none⟩) n n) (mkU n (seen (ats.take k))) [w1.heap.size] ∧ (∃ y, wr = ext w y) ∧ (ats.drop k).all (atomB n) = ats.all (atomB n)) (fun i _ => ats.length - (intOf i).toNat)
        case atStart => exact ⟨0, rfl, by omega, by simpa [seen] using hS, (by refine Chg.isExt (F := []) ?_ (refl_ext _) (by simp); repeat (with_reducible (first | exact Chg.refl _ _ | exact Nat.le_refl _ | exact Chg.ofExt (by assumption) | refine Chg.trans0 ?_ (by assumption) | refine Chg.extS ?_ _ | refine Chg.alloc ?_ _ | refine Chg.drew ?_ | refine Chg.setCellE ?_ ?_ _ | refine le_addk ?_ _ | refine le_ext ?_ | refine le_alloc ?_ _ | refine le_setC ?_ _ _ | refine le_drew ?_ | assumption | (refine Nat.le_of_lt ?_; omega) | omega))), by simp⟩
        case round =>
          obtain ⟨k, rfl, hk, hS, hy, hj⟩ := hrel
          have Hj := Lib.hid hj
          clear hj
          by_cases hlt : k < ats.length
          · obtain ⟨b, o, A', c', rfl, hb0, hc0, hd0, hv0⟩ := r1.atA hlt
            have hb : b < wr.heap.size := Nat.lt_of_lt_of_le hb0 (size_of_ext hy)
            have hc : wr.cell? ⟨b, o + k * 2, none⟩ = some (.string ats[k].1) := by obtain ⟨y, e⟩ := hy; rw [e, cell_ext hb0]; exact hc0
            have hd : wr.cell? ⟨b, o + k * 2 + 1, none⟩ = some (.slice A' ats[k].2.length c') := by obtain ⟨y, e⟩ := hy; rw [e, cell_ext hb0]; exact hd0
            clear hc0 hd0
            have hle := Hx.out ats[k] (List.getElem_mem hlt)
            obtain ⟨x1, x2⟩ := hle
            have x3 : ats[k].1.size ≤ 1000000000 := by omega
            have e := Hj.out
            rw [allA_step hlt] at e
            have HS := Lib.hid hS
            have Hst := Lib.hid (seen_take hlt)
            obtain ⟨s, hs⟩ : ∃ s, ats[k].1 = s := ⟨_, rfl⟩
            obtain ⟨xs, hxs⟩ : ∃ xs, ats[k].2 = xs := ⟨_, rfl⟩
            have ea : atomB n ats[k] = (nameB s && inB xs.length 1 5 && xs.all fun v => inB v 0 ((n : Int) - 1)) := by unfold atomB; rw [hs, hxs]
            rw [ea] at e
            have Hst : Hid (seen (ats.take (k + 1)) = seen (ats.take k) ++ xs) := Lib.hid (by rw [Hst.out, hxs])
            rw [hs] at hc x3
            rw [hxs] at hd hv0 x2
            obtain ⟨t4, ht4⟩ : ∃ t, nameB s = t := ⟨_, rfl⟩
            obtain ⟨t5, ht5⟩ : ∃ t, inB xs.length 1 5 = t := ⟨_, rfl⟩
            rw [ht4, ht5] at e
            have N4 := Lib.hid ht4
            have N5 := Lib.hid ht5
            have He := Lib.hid e
            clear e ea hs hxs ht4 ht5 hS x1
            cases t4 with
            | false =>
              go_wp2_with (go_at_call 78; refine (IsValidName_any x3).mono ?_; rintro e w' ⟨rfl, rfl⟩; rw [N4.out])
              go_ret
              exact ⟨by rw [HF.out He.out.symm]; rfl, (by refine Chg.isExt (F := []) ?_ (refl_ext _) (by simp); repeat (with_reducible (first | exact Chg.refl _ _ | exact Nat.le_refl _ | exact Chg.ofExt (by assumption) | refine Chg.trans0 ?_ (by assumption) | refine Chg.extS ?_ _ | refine Chg.alloc ?_ _ | refine Chg.drew ?_ | refine Chg.setCellE ?_ ?_ _ | refine le_addk ?_ _ | refine le_ext ?_ | refine le_alloc ?_ _ | refine le_setC ?_ _ _ | refine le_drew ?_ | assumption | (refine Nat.le_of_lt ?_; omega) | omega)))⟩
            | true =>
              cases t5 with
              | false =>
                go_wp2_with (first
                  | (go_at_call 78; refine (IsValidName_any x3).mono ?_; rintro e w' ⟨rfl, rfl⟩; rw [N4.out])
                  | (go_at_call 76; refine (within_any _ _ _ _).mono ?_; rintro e w' ⟨rfl, rfl⟩; rw [N5.out]))
                go_ret
                exact ⟨by rw [HF.out He.out.symm]; rfl, (by refine Chg.isExt (F := []) ?_ (refl_ext _) (by simp); repeat (with_reducible (first | exact Chg.refl _ _ | exact Nat.le_refl _ | exact Chg.ofExt (by assumption) | refine Chg.trans0 ?_ (by assumption) | refine Chg.extS ?_ _ | refine Chg.alloc ?_ _ | refine Chg.drew ?_ | refine Chg.setCellE ?_ ?_ _ | refine le_addk ?_ _ | refine le_ext ?_ | refine le_alloc ?_ _ | refine le_setC ?_ _ _ | refine le_drew ?_ | assumption | (refine Nat.le_of_lt ?_; omega) | omega)))⟩
              | true =>
                go_wp2_with (first
                  | (go_at_call 78; refine (IsValidName_any x3).mono ?_; rintro e w' ⟨rfl, rfl⟩; rw [N4.out])
                  | (go_at_call 76; refine (within_any _ _ _ _).mono ?_; rintro e w' ⟨rfl, rfl⟩; rw [N5.out]))
                have hyw : ∃ y, wr.alloc (.cells #[.string s, .slice A' xs.length c'] 89) = ext wr y := alloc_ext _ _
                go_loopw [53] (fun i vs => ∃ j : Nat, i = .int .i64 j ∧ j ≤ xs.length ∧ SV 4 1 sB vs (.slice (some ⟨w1.heap.size, 0, none⟩) n n) (mkU n (seen (ats.take k) ++ xs.take j)) [w1.heap.size] ∧ (∃ y, vs = ext w y) ∧ (xs.drop j).all (fun v => inB v 0 ((n : Int) - 1)) = xs.all fun v => inB v 0 ((n : Int) - 1)) (fun i _ => xs.length - (intOf i).toNat)
                case atStart => exact ⟨0, rfl, by omega, by simpa using HS.out.toExt hyw, (by refine Chg.isExt (F := []) ?_ (refl_ext _) (by simp); repeat (with_reducible (first | exact Chg.refl _ _ | exact Nat.le_refl _ | exact Chg.ofExt (by assumption) | refine Chg.trans0 ?_ (by assumption) | refine Chg.extS ?_ _ | refine Chg.alloc ?_ _ | refine Chg.drew ?_ | refine Chg.setCellE ?_ ?_ _ | refine le_addk ?_ _ | refine le_ext ?_ | refine le_alloc ?_ _ | refine le_setC ?_ _ _ | refine le_drew ?_ | assumption | (refine Nat.le_of_lt ?_; omega) | omega))), by simp⟩
                case round =>
                  obtain ⟨j, rfl, hj1, hS2, hy2, hj⟩ := hrel
                  have Hj2 := Lib.hid hj
                  have HS2 := Lib.hid hS2
                  clear hj
                  by_cases hlt2 : j < xs.length
                  · obtain ⟨b3, o3, rfl, hb3, hc3⟩ := (hv0.toExt hy2).atI hlt2
                    have e := Hj2.out
                    rw [allA_step hlt2] at e
                    obtain ⟨v, hvv⟩ : ∃ v, xs[j] = v := ⟨_, rfl⟩
                    have Hv := Lib.hid hvv
                    rw [hvv] at e hc3
                    obtain ⟨t6, ht6⟩ : ∃ t, inB v 0 ((n : Int) - 1) = t := ⟨_, rfl⟩
                    rw [ht6] at e
                    have N6 := Lib.hid ht6
                    have He2 := Lib.hid e
                    clear e hvv ht6
                    cases t6 with
                    | false =>
                      have HB := Lib.hid (show ats.all (atomB n) = false by rw [← He.out, ← He2.out]; rfl)
                      clear hS2
                      go_wp2_with (go_at_call 76; refine (within_any _ _ _ _).mono ?_; rintro e w' ⟨rfl, rfl⟩; rw [N6.out])
                      go_ret
                      exact ⟨by rw [HF.out HB.out]; rfl, hy2⟩
                    | true =>
                      have hvb := inB_t N6.out
                      obtain ⟨v0, v1⟩ := hvb
                      have v2 : v < (n : Int) := by omega
                      obtain ⟨⟨u, hu⟩, hf, hg⟩ := hS2.cell (by simp) (j := v.toNat) (by omega)
                      have Hset := Lib.hid (show (mkU n (seen (ats.take k) ++ xs.take j)).set v.toNat true = mkU n (seen (ats.take k) ++ xs.take (j + 1)) by
                        rw [mkU_set v0, List.take_succ_eq_append_getElem hlt2, Hv.out, List.append_assoc])
                      clear hS2
                      go_wp2_with (go_at_call 76; refine (within_any _ _ _ _).mono ?_; rintro e w' ⟨rfl, rfl⟩; rw [N6.out])
                      obtain ⟨h3, h4⟩ := HS2.out.set1 (by simp) (k := v.toNat) (by omega) (u := .bool true) (d := true) (fun _ => ⟨rfl, rfl⟩)
                      rw [Hset.out] at h3
                      exact ⟨⟨j + 1, by go_num, by omega, h3, h4.isExt hy2 (by simpa using by omega), by simpa using He2.out⟩, by simp [intOf]; omega⟩
                  · have e := Hj2.out
                    rw [allA_end hlt2] at e
                    have e2 := He.out
                    rw [← e] at e2
                    have He2 := Lib.hid e2
                    rw [show xs.take j = xs from List.take_of_length_le (by omega), ← Hst.out] at hS2
                    clear e e2
                    go_wp2
                    exact ⟨⟨k + 1, by go_num, by omega, hS2, hy2, by simpa using He2.out⟩, by simp [intOf]; omega⟩
          · have e := Hj.out
            rw [allA_end hlt] at e
            have HE2 := Lib.hid (HT.out e.symm)
            rw [List.take_of_length_le (by omega)] at hS
            have hV := hS.toView sB_v
            clear e
            go_wp2
            clear hlt Hj
            go_loopw [69] (fun i ws => ∃ k : Nat, i = .int .i64 k ∧ k ≤ n ∧ ((mkU n (seen ats)).drop k).all id = (mkU n (seen ats)).all id ∧ ∃ y, ws = ext wr y) (fun i _ => n - (intOf i).toNat)
            case atStart => exact ⟨0, rfl, by omega, by simp, refl_ext _⟩
            case round =>
              obtain ⟨k, rfl, hk, hj, hy3⟩ := hrel
              have Hj := Lib.hid hj
              clear hj
              by_cases hlt : k < n
              · have hlt2 : k < (mkU n (seen ats)).length := by simpa using hlt
                obtain ⟨b3, o3, hA3, hb3, hc3⟩ := (hV.toExt hy3).atB hlt2
                injection hA3 with hA3
                injection hA3 with e1 e2
                subst e1 e2
                have e := Hj.out
                rw [allA_step hlt2] at e
                obtain ⟨t, ht⟩ : ∃ t, (mkU n (seen ats))[k] = t := ⟨_, rfl⟩
                rw [ht] at e hc3
                rw [Nat.zero_add] at hc3
                have He := Lib.hid e
                clear e ht
                cases t with
                | true =>
                  go_wp2
                  exact ⟨⟨k + 1, by go_num, by omega, by simpa using He.out, hy3⟩, by simp [intOf]; omega⟩
                | false =>
                  go_wp2
                  go_ret
                  exact ⟨by rw [HE2.out, ← He.out]; rfl, trans_ext hy hy3⟩
              · have e := Hj.out
                rw [allA_end (by simpa using hlt)] at e
                have He := Lib.hid e
                clear e
                go_wp2
                go_ret
                exact ⟨by rw [HE2.out, ← He.out]; rfl, trans_ext hy hy3⟩
theorem IsValidQuery_any {A B : Option Addr} {c e1 : Nat} {d : Qd} {w : World} (hb : BQ d) (h : vQ w [.int .i64 d.1, .slice A d.2.1.length c, .slice B d.2.2.length e1] d) :
    Calls Try.prog 29 #[.agg #[.int .i64 d.1, .slice A d.2.1.length c, .slice B d.2.2.length e1]] w fun e w' => e = .returned (.bool (vqB d)) ∧ ∃ y, w' = ext w y := IsValidQuery_w hb.w h
theorem quietEi' {P : Program} {f : FuncId} {args : Array Value} {w y : World} {m n : Int}
    (h : Calls P f args (ext w y) fun e w' => e = .returned (.int .i64 m) ∧ ∃ z, w' = ext (ext w y) z) (hc : m = n) : Calls P f args (ext w y) fun e w' => e = .returned (.int .i64 n) ∧ ∃ z, w' = ext w z := by
  subst hc; exact quietE h
theorem l7Find_n {A : Option Addr} {c m : Nat} {xs : List Int} {n : Int} {w : World} (hm : xs.length = m) (hx : m ≤ 1000000000) (h1 : RI w A xs) :
    Calls Try.prog 75 #[.slice A m c, .int .i64 n] w fun e w' => e = .returned (.int .i64 (iof 0 n xs)) ∧ ∃ y, w' = ext w y := by
  subst hm
  exact l7Find_any hx h1
set_option maxRecDepth 100000 in
set_option maxHeartbeats 8000000 in
theorem specIsValidQuery_w {A B : Option Addr} {c e1 : Nat} {d : Qd} {w : World} (hb : WQ d) (h : vQ w [.int .i64 d.1, .slice A d.2.1.length c, .slice B d.2.2.length e1] d) :
    Calls Try.prog 28 #[.agg #[.int .i64 d.1, .slice A d.2.1.length c, .slice B d.2.2.length e1]] w fun e w' => e = .returned (.bool (vqB d)) ∧ ∃ y, w' = ext w y := by
  obtain ⟨r1, r2, hcap⟩ := vQ_get h
  obtain ⟨hz, b1, b2⟩ := hb
  obtain ⟨z, ats, out⟩ := d
  dsimp only at r1 r2 hcap hz b1 b2 ⊢
  have r1 := (vAts_get r1).2
  have m2 : out.length ≤ 1000000000 := by omega
  have b4 := b1.1
  have Hx := Lib.hid b1.2
  clear h b1
  obtain ⟨t1, ht1⟩ : ∃ t, inB z 1 5 = t := ⟨_, rfl⟩
  obtain ⟨t2, ht2⟩ : ∃ t, inB ats.length 1 4 = t := ⟨_, rfl⟩
  have N1 := Lib.hid ht1
  have N2 := Lib.hid ht2
  have HE := Lib.hid (show vqB (z, ats, out) = (t1 && t2 && setB z [] out && ats.all (atomB z) && coverB z ats) by unfold vqB; rw [ht1, ht2])
  clear ht1 ht2
  cases t1 with
  | false =>
    go_enter Try.func28, Try.ntmps28
    go_wp2_with (go_at_call 72; refine (l1In_any _ _ _ _).mono ?_; rintro e w' ⟨rfl, rfl⟩; (first | rw [N1.out] | rw [N2.out]))
    go_ret
    exact ⟨by rw [HE.out]; rfl, (by refine Chg.isExt (F := []) ?_ (refl_ext _) (by simp); repeat (with_reducible (first | exact Chg.refl _ _ | exact Nat.le_refl _ | exact Chg.ofExt (by assumption) | refine Chg.trans0 ?_ (by assumption) | refine Chg.extS ?_ _ | refine Chg.alloc ?_ _ | refine Chg.drew ?_ | refine Chg.setCellE ?_ ?_ _ | refine le_addk ?_ _ | refine le_ext ?_ | refine le_alloc ?_ _ | refine le_setC ?_ _ _ | refine le_drew ?_ | assumption | (refine Nat.le_of_lt ?_; omega) | omega)))⟩
  | true =>
    have hn := inB_t N1.out
    obtain ⟨n, rfl⟩ : ∃ n : Nat, z = n := ⟨z.toNat, by omega⟩
    have hn1 : n ≤ 5 := by omega
    have hn2 : 1 ≤ n := by omega
    clear hn hz
    cases t2 with
    | false =>
      go_enter Try.func28, Try.ntmps28
      go_wp2_with (go_at_call 72; refine (l1In_any _ _ _ _).mono ?_; rintro e w' ⟨rfl, rfl⟩; (first | rw [N1.out] | rw [N2.out]))
      go_ret
      exact ⟨by rw [HE.out]; rfl, (by refine Chg.isExt (F := []) ?_ (refl_ext _) (by simp); repeat (with_reducible (first | exact Chg.refl _ _ | exact Nat.le_refl _ | exact Chg.ofExt (by assumption) | refine Chg.trans0 ?_ (by assumption) | refine Chg.extS ?_ _ | refine Chg.alloc ?_ _ | refine Chg.drew ?_ | refine Chg.setCellE ?_ ?_ _ | refine le_addk ?_ _ | refine le_ext ?_ | refine le_alloc ?_ _ | refine le_setC ?_ _ _ | refine le_drew ?_ | assumption | (refine Nat.le_of_lt ?_; omega) | omega)))⟩
    | true =>
      by_cases hbig : n < out.length
      · have HF := Lib.hid (show vqB ((n : Int), ats, out) = false by
          rw [HE.out]
          cases hs : setB n [] out with
          | false => rfl
          | true => have := setB_len hs (by omega); omega)
        go_enter Try.func28, Try.ntmps28
        go_wp2_with (go_at_call 72; refine (l1In_any _ _ _ _).mono ?_; rintro e w' ⟨rfl, rfl⟩; (first | rw [N1.out] | rw [N2.out]))
        go_ret
        exact ⟨by rw [HF.out]; rfl, (by refine Chg.isExt (F := []) ?_ (refl_ext _) (by simp); repeat (with_reducible (first | exact Chg.refl _ _ | exact Nat.le_refl _ | exact Chg.ofExt (by assumption) | refine Chg.trans0 ?_ (by assumption) | refine Chg.extS ?_ _ | refine Chg.alloc ?_ _ | refine Chg.drew ?_ | refine Chg.setCellE ?_ ?_ _ | refine le_addk ?_ _ | refine le_ext ?_ | refine le_alloc ?_ _ | refine le_setC ?_ _ _ | refine le_drew ?_ | assumption | (refine Nat.le_of_lt ?_; omega) | omega)))⟩
      · have HF1 := Lib.hid (show ats.all (atomB n) = false → vqB ((n : Int), ats, out) = false by rw [HE.out]; intro h; rw [h, Bool.and_false]; rfl)
        have HF2 := Lib.hid (show (mkU n (seen ats)).all id = false → vqB ((n : Int), ats, out) = false by rw [HE.out]; intro h; rw [show coverB n ats = (mkU n (seen ats)).all id from rfl, h, Bool.and_false])
        have HT := Lib.hid (show ats.all (atomB n) = true → (mkU n (seen ats)).all id = true → vqB ((n : Int), ats, out) = setB n [] out by rw [HE.out]; intro h h2; rw [h, show coverB n ats = (mkU n (seen ats)).all id from rfl, h2]; simp)
        have hw1 : IntKind.i64.wrap ((n : Int) - 1) = (n : Int) - 1 := by rw [IntKind.wrap_i64]; omega
        go_enter Try.func28, Try.ntmps28
        go_upto_region 1 with fail
        refine wp_name ?_
        intro W hW
        have xW : ∃ y, W = ext w y := by rw [hW.out]; exact (by refine Chg.isExt (F := []) ?_ (refl_ext _) (by simp); repeat (with_reducible (first | exact Chg.refl _ _ | exact Nat.le_refl _ | exact Chg.ofExt (by assumption) | refine Chg.trans0 ?_ (by assumption) | refine Chg.extS ?_ _ | refine Chg.alloc ?_ _ | refine Chg.drew ?_ | refine Chg.setCellE ?_ ?_ _ | refine le_addk ?_ _ | refine le_ext ?_ | refine le_alloc ?_ _ | refine le_setC ?_ _ _ | refine le_drew ?_ | assumption | (refine Nat.le_of_lt ?_; omega) | omega)))
        have BW0 : BoxAt W (w.heap.size) #[.int .i64 (n : Int), .slice A ats.length c, .slice B out.length e1] := by rw [hW.out]; refine ⟨?_, fun j => ?_, fun j => ?_⟩ <;> go_simp
        obtain ⟨lW0, bW0, fW0⟩ := BW0
        have cW0_0 : W.cell? ⟨w.heap.size, 0, none⟩ = some (.int .i64 (n : Int)) := bW0 0
        have cW0_1 : W.cell? ⟨w.heap.size, 1, none⟩ = some (.slice A ats.length c) := bW0 1
        have cW0_2 : W.cell? ⟨w.heap.size, 2, none⟩ = some (.slice B out.length e1) := bW0 2
        clear hW
        go_wp2_with (go_at_call 72; refine (l1In_any _ _ _ _).mono ?_; rintro e w' ⟨rfl, rfl⟩; (first | rw [N1.out] | rw [N2.out]))
        have r1 := r1.toExt xW
        have r2 := r2.toExt xW
        go_loopw [3] (fun i wr => ∃ k : Nat, i = .int .i64 k ∧ k ≤ ats.length ∧ (∃ y, wr = ext W y) ∧ (ats.drop k).all (atomB n) = ats.all (atomB n)) (fun i _ => ats.length - (intOf i).toNat)
        case atStart => exact ⟨0, rfl, by omega, refl_ext _, by simp⟩
        case round =>
          obtain ⟨k, rfl, hk, hy, hj⟩ := hrel
          have Hj := Lib.hid hj
          clear hj
          obtain ⟨l1, a1, a1', a1'', f1⟩ := box3 (BoxAt.toExt (cs := #[_, _, _]) ⟨lW0, bW0, fW0⟩ hy)
          by_cases hlt : k < ats.length
          · obtain ⟨b, o, A', c', rfl, hb0, hc0, hd0, hv0⟩ := r1.atA hlt
            have hb : b < wr.heap.size := Nat.lt_of_lt_of_le hb0 (size_of_ext hy)
            have hc : wr.cell? ⟨b, o + k * 2, none⟩ = some (.string ats[k].1) := by obtain ⟨y, e⟩ := hy; rw [e, cell_ext hb0]; exact hc0
            have hd : wr.cell? ⟨b, o + k * 2 + 1, none⟩ = some (.slice A' ats[k].2.length c') := by obtain ⟨y, e⟩ := hy; rw [e, cell_ext hb0]; exact hd0
            have hle := Hx.out ats[k] (List.getElem_mem hlt)
            obtain ⟨x1, x2⟩ := hle
            have x3 : ats[k].1.size ≤ 1000000000 := by omega
            have e := Hj.out
            rw [allA_step hlt] at e
            obtain ⟨s, hs⟩ : ∃ s, ats[k].1 = s := ⟨_, rfl⟩
            obtain ⟨xs, hxs⟩ : ∃ xs, ats[k].2 = xs := ⟨_, rfl⟩
            have ea : atomB n ats[k] = (nameB s && inB xs.length 1 5 && xs.all fun v => inB v 0 ((n : Int) - 1)) := by unfold atomB; rw [hs, hxs]
            rw [ea] at e
            rw [hs] at hc x3
            rw [hxs] at hd hd0 hv0 x2
            obtain ⟨t4, ht4⟩ : ∃ t, nameB s = t := ⟨_, rfl⟩
            obtain ⟨t5, ht5⟩ : ∃ t, inB xs.length 1 5 = t := ⟨_, rfl⟩
            rw [ht4, ht5] at e
            have N4 := Lib.hid ht4
            have N5 := Lib.hid ht5
            have He := Lib.hid e
            have Hd0 := Lib.hid hd0
            clear e ea hs hxs ht4 ht5 x1 hc0 hd0
            cases t4 with
            | false =>
              go_wp2_with (go_at_call 73; refine (specIsValidName_any x3).mono ?_; rintro e w' ⟨rfl, rfl⟩; rw [N4.out])
              go_ret
              exact ⟨by rw [HF1.out He.out.symm]; rfl, trans_ext xW hy⟩
            | true =>
              cases t5 with
              | false =>
                go_wp2_with (first
                  | (go_at_call 73; refine (specIsValidName_any x3).mono ?_; rintro e w' ⟨rfl, rfl⟩; rw [N4.out])
                  | (go_at_call 72; refine (l1In_any _ _ _ _).mono ?_; rintro e w' ⟨rfl, rfl⟩; rw [N5.out]))
                go_ret
                exact ⟨by rw [HF1.out He.out.symm]; rfl, trans_ext xW hy⟩
              | true =>
                go_wp2_with (first
                  | (go_at_call 73; refine (specIsValidName_any x3).mono ?_; rintro e w' ⟨rfl, rfl⟩; rw [N4.out])
                  | (go_at_call 72; refine (l1In_any _ _ _ _).mono ?_; rintro e w' ⟨rfl, rfl⟩; rw [N5.out]))
                clear l1 a1 a1' a1'' f1 hb hc hd
                go_loopw [4] (fun i vs => ∃ j : Nat, i = .int .i64 j ∧ j ≤ xs.length ∧ (∃ y, vs = ext W y) ∧ (xs.drop j).all (fun v => inB v 0 ((n : Int) - 1)) = xs.all fun v => inB v 0 ((n : Int) - 1)) (fun i _ => xs.length - (intOf i).toNat)
                case atStart => exact ⟨0, rfl, by omega, hy, by simp⟩
                case round =>
                  obtain ⟨j, rfl, hj1, hy2, hj⟩ := hrel
                  have Hj2 := Lib.hid hj
                  clear hj
                  obtain ⟨l2, a2, a2', a2'', f2⟩ := box3 (BoxAt.toExt (cs := #[_, _, _]) ⟨lW0, bW0, fW0⟩ hy2)
                  have hb : b < wr.heap.size := Nat.lt_of_lt_of_le hb0 (size_of_ext hy2)
                  have hd : wr.cell? ⟨b, o + k * 2 + 1, none⟩ = some (.slice A' xs.length c') := by obtain ⟨y, e⟩ := hy2; rw [e, cell_ext hb0]; exact Hd0.out
                  by_cases hlt2 : j < xs.length
                  · obtain ⟨b3, o3, rfl, hb3, hc3⟩ := (hv0.toExt hy2).atI hlt2
                    have e := Hj2.out
                    rw [allA_step hlt2] at e
                    obtain ⟨v, hvv⟩ : ∃ v, xs[j] = v := ⟨_, rfl⟩
                    rw [hvv] at e hc3
                    obtain ⟨t6, ht6⟩ : ∃ t, inB v 0 ((n : Int) - 1) = t := ⟨_, rfl⟩
                    rw [ht6] at e
                    have N6 := Lib.hid ht6
                    have He2 := Lib.hid e
                    clear e hvv ht6
                    cases t6 with
                    | false =>
                      have HB := Lib.hid (show ats.all (atomB n) = false by rw [← He.out, ← He2.out]; rfl)
                      go_wp2
                      refine wp_region_ext (by kernel_rfl) (by kernel_rfl) ?_
                      repeat (go_big_quiet_step ((go_at_call 72; (try rw [hw1]); exact quietSb (l1In_any _ _ _ _) N6.out)))
                      refine wpQuiet_nil ?_
                      rintro _ ⟨zz, rfl⟩
                      go_wp2
                      go_ret
                      exact ⟨by rw [HF1.out HB.out]; rfl, (by refine Chg.isExt (F := []) ?_ (refl_ext _) (by simp); repeat (with_reducible (first | exact Chg.refl _ _ | exact Nat.le_refl _ | exact Chg.ofExt (by assumption) | refine Chg.trans0 ?_ (by assumption) | refine Chg.extS ?_ _ | refine Chg.alloc ?_ _ | refine Chg.drew ?_ | refine Chg.setCellE ?_ ?_ _ | refine le_addk ?_ _ | refine le_ext ?_ | refine le_alloc ?_ _ | refine le_setC ?_ _ _ | refine le_drew ?_ | assumption | (refine Nat.le_of_lt ?_; omega) | omega)))⟩
                    | true =>
                      go_wp2
                      refine wp_region_ext (by kernel_rfl) (by kernel_rfl) ?_
                      repeat (go_big_quiet_step ((go_at_call 72; (try rw [hw1]); exact quietSb (l1In_any _ _ _ _) N6.out)))
                      refine wpQuiet_nil ?_
                      rintro _ ⟨zz, rfl⟩
                      go_wp2
                      exact ⟨⟨j + 1, by go_num, by omega, (by refine Chg.isExt (F := []) ?_ (refl_ext _) (by simp); repeat (with_reducible (first | exact Chg.refl _ _ | exact Nat.le_refl _ | exact Chg.ofExt (by assumption) | refine Chg.trans0 ?_ (by assumption) | refine Chg.extS ?_ _ | refine Chg.alloc ?_ _ | refine Chg.drew ?_ | refine Chg.setCellE ?_ ?_ _ | refine le_addk ?_ _ | refine le_ext ?_ | refine le_alloc ?_ _ | refine le_setC ?_ _ _ | refine le_drew ?_ | assumption | (refine Nat.le_of_lt ?_; omega) | omega))), by simpa using He2.out⟩, by simp [intOf]; omega⟩
                  · have e := Hj2.out
                    rw [allA_end hlt2] at e
                    have e2 := He.out
                    rw [← e] at e2
                    have He2 := Lib.hid e2
                    clear e e2
                    go_wp2
                    exact ⟨⟨k + 1, by go_num, by omega, hy2, by simpa using He2.out⟩, by simp [intOf]; omega⟩
          · have e := Hj.out
            rw [allA_end hlt] at e
            have HA := Lib.hid e.symm
            clear e
            go_wp2
            clear hlt Hj l1 a1 a1' a1'' f1
            go_loopw [5] (fun i wr => ∃ v : Nat, i = .int .i64 v ∧ v ≤ n ∧ (∃ y, wr = ext W y) ∧ ((mkU n (seen ats)).drop v).all id = (mkU n (seen ats)).all id) (fun i _ => n - (intOf i).toNat)
            case atStart => exact ⟨0, rfl, by omega, hy, by simp⟩
            case round =>
              obtain ⟨v, rfl, hv, hy, hj⟩ := hrel
              have Hj := Lib.hid hj
              clear hj
              obtain ⟨l1, a1, a1', a1'', f1⟩ := box3 (BoxAt.toExt (cs := #[_, _, _]) ⟨lW0, bW0, fW0⟩ hy)
              by_cases hlt : v < n
              · have hlt2 : v < (mkU n (seen ats)).length := by simpa using hlt
                have e := Hj.out
                rw [allA_step hlt2] at e
                have em : (mkU n (seen ats))[v] = decide ((v : Int) ∈ seen ats) := by simp [mkU]
                rw [em] at e
                have He := Lib.hid e
                clear e em
                go_wp2
                clear l1 a1 a1' a1'' f1
                go_loopw [6, 7] (fun s i vs => ∃ k : Nat, i = .int .i64 k ∧ s = .bool (decide ((v : Int) ∈ seen (ats.take k))) ∧ k ≤ ats.length ∧ (∃ y, vs = ext W y)) (fun _ i _ => ats.length - (intOf i).toNat)
                case atStart => exact ⟨0, rfl, by simp [seen], by omega, hy⟩
                case round =>
                  obtain ⟨k, rfl, rfl, hk, hy2⟩ := hrel
                  obtain ⟨l2, a2, a2', a2'', f2⟩ := box3 (BoxAt.toExt (cs := #[_, _, _]) ⟨lW0, bW0, fW0⟩ hy2)
                  by_cases hlt3 : k < ats.length
                  · obtain ⟨b, o, A', c', rfl, hb0, hc0, hd0, hv0⟩ := r1.atA hlt3
                    have hb : b < wr.heap.size := Nat.lt_of_lt_of_le hb0 (size_of_ext hy2)
                    have hc : wr.cell? ⟨b, o + k * 2, none⟩ = some (.string ats[k].1) := by obtain ⟨y, e⟩ := hy2; rw [e, cell_ext hb0]; exact hc0
                    have hd : wr.cell? ⟨b, o + k * 2 + 1, none⟩ = some (.slice A' ats[k].2.length c') := by obtain ⟨y, e⟩ := hy2; rw [e, cell_ext hb0]; exact hd0
                    have x2 : ats[k].2.length ≤ 1000000000 := by have := (Hx.out ats[k] (List.getElem_mem hlt3)).2; omega
                    have hst : decide ((v : Int) ∈ seen (ats.take (k + 1))) = (decide ((v : Int) ∈ seen (ats.take k)) || decide ((v : Int) ∈ ats[k].2)) := by
                      rw [seen_take hlt3, Bool.eq_iff_iff]; simp
                    obtain ⟨t7, ht7⟩ : ∃ t, decide ((v : Int) ∈ seen (ats.take k)) = t := ⟨_, rfl⟩
                    obtain ⟨t8, ht8⟩ : ∃ t, decide ((v : Int) ∈ ats[k].2) = t := ⟨_, rfl⟩
                    rw [ht7, ht8] at hst
                    rw [ht7]
                    have Hst := Lib.hid hst
                    have H8 := Lib.hid ht8
                    clear hst ht7 ht8 hc0 hd0
                    cases t7 with
                    | true =>
                      go_wp2
                      exact ⟨⟨k + 1, by go_num, by rw [Hst.out]; rfl, by omega, hy2⟩, by simp [intOf]; omega⟩
                    | false =>
                      go_wp2_with (go_at_call 74; refine (specContains_any x2 (hv0.toExt hy2)).mono ?_; rintro e w1 ⟨rfl, hx1⟩; rw [H8.out])
                      exact ⟨⟨k + 1, by go_num, by rw [Hst.out, Bool.false_or], by omega, (by refine Chg.isExt (F := []) ?_ (refl_ext _) (by simp); repeat (with_reducible (first | exact Chg.refl _ _ | exact Nat.le_refl _ | exact Chg.ofExt (by assumption) | refine Chg.trans0 ?_ (by assumption) | refine Chg.extS ?_ _ | refine Chg.alloc ?_ _ | refine Chg.drew ?_ | refine Chg.setCellE ?_ ?_ _ | refine le_addk ?_ _ | refine le_ext ?_ | refine le_alloc ?_ _ | refine le_setC ?_ _ _ | refine le_drew ?_ | assumption | (refine Nat.le_of_lt ?_; omega) | omega)))⟩, by simp [intOf]; omega⟩
                  · have ek : ats.take k = ats := List.take_of_length_le (by omega)
                    rw [ek]
                    have He2 := He.out
                    obtain ⟨t9, ht9⟩ : ∃ t, decide ((v : Int) ∈ seen ats) = t := ⟨_, rfl⟩
                    rw [ht9] at He2 ⊢
                    have HR := Lib.hid He2
                    clear ek He2 ht9
                    cases t9 with
                    | true =>
                      go_wp2
                      exact ⟨⟨v + 1, by go_num, by omega, hy2, by simpa using HR.out⟩, by simp [intOf]; omega⟩
                    | false =>
                      go_wp2
                      go_ret
                      exact ⟨by rw [HF2.out HR.out.symm]; rfl, trans_ext xW hy2⟩
              · have e := Hj.out
                rw [allA_end (by simpa using hlt)] at e
                have HU := Lib.hid (HT.out HA.out e.symm)
                clear e
                go_wp2
                clear hlt Hj l1 a1 a1' a1'' f1
                go_loopw [8] (fun i wr => ∃ k : Nat, i = .int .i64 k ∧ k ≤ out.length ∧ (∃ y, wr = ext W y) ∧ setB n (out.take k) (out.drop k) = setB n [] out) (fun i _ => out.length - (intOf i).toNat)
                case atStart => exact ⟨0, rfl, by omega, hy, by simp⟩
                case round =>
                  obtain ⟨k, rfl, hk, hy3, hj⟩ := hrel
                  have Hj := Lib.hid hj
                  clear hj
                  obtain ⟨l3, a3, a3', a3'', f3⟩ := box3 (BoxAt.toExt (cs := #[_, _, _]) ⟨lW0, bW0, fW0⟩ hy3)
                  by_cases hlt : k < out.length
                  · have r2' := r2.toExt hy3
                    obtain ⟨b, o, rfl, hb, hc⟩ := r2'.atI hlt
                    have e := Hj.out
                    rw [setB_step hlt] at e
                    obtain ⟨x, hx⟩ : ∃ x, out[k] = x := ⟨_, rfl⟩
                    rw [hx] at e hc
                    obtain ⟨t1, ht1⟩ : ∃ t, inB x 0 ((n : Int) - 1) = t := ⟨_, rfl⟩
                    obtain ⟨m, hm⟩ : ∃ m, iof 0 x (out.take k) = m := ⟨_, rfl⟩
                    have hmm := iof_nonneg (n := x) 0 (out.take k)
                    rw [hm] at hmm
                    have hp := r2'.pre k
                    have HP := Lib.hid (show (out.take k).length = k by simp; omega)
                    have T1 := Lib.hid ht1
                    have T2 := Lib.hid hm
                    have g1 : (0 : Int) ≤ (k : Int) := by omega
                    have g2 : (k : Int) ≤ (e1 : Int) := by omega
                    rw [ht1] at e
                    cases t1 with
                    | false =>
                      have He := Lib.hid e
                      clear e ht1 hm hx hmm
                      go_wp2
                      refine wp_region_ext (by kernel_rfl) (by kernel_rfl) ?_
                      repeat (go_big_quiet_step ((go_at_call 72; (try rw [hw1]); exact quietSb (l1In_any _ _ _ _) T1.out)))
                      refine wpQuiet_nil ?_
                      rintro _ ⟨zz, rfl⟩
                      go_wp2
                      go_ret
                      exact ⟨by rw [HU.out, ← He.out]; rfl, (by refine Chg.isExt (F := []) ?_ (refl_ext _) (by simp); repeat (with_reducible (first | exact Chg.refl _ _ | exact Nat.le_refl _ | exact Chg.ofExt (by assumption) | refine Chg.trans0 ?_ (by assumption) | refine Chg.extS ?_ _ | refine Chg.alloc ?_ _ | refine Chg.drew ?_ | refine Chg.setCellE ?_ ?_ _ | refine le_addk ?_ _ | refine le_ext ?_ | refine le_alloc ?_ _ | refine le_setC ?_ _ _ | refine le_drew ?_ | assumption | (refine Nat.le_of_lt ?_; omega) | omega)))⟩
                    | true =>
                      by_cases hm0 : 0 ≤ m
                      · rw [decide_eq_true (hmm.1 hm0)] at e
                        have He := Lib.hid e
                        clear e ht1 hm hx hmm
                        go_wp2
                        refine wp_region_ext (by kernel_rfl) (by kernel_rfl) ?_
                        repeat (go_big_quiet_step (first | (go_at_call 72; (try rw [hw1]); exact quietSb (l1In_any _ _ _ _) T1.out) | (go_at_call 75; exact quietEi' (l7Find_n HP.out (by omega) hp.ext) T2.out)))
                        refine wpQuiet_nil ?_
                        rintro _ ⟨zz, rfl⟩
                        go_wp2
                        go_ret
                        exact ⟨by rw [HU.out, ← He.out]; rfl, (by refine Chg.isExt (F := []) ?_ (refl_ext _) (by simp); repeat (with_reducible (first | exact Chg.refl _ _ | exact Nat.le_refl _ | exact Chg.ofExt (by assumption) | refine Chg.trans0 ?_ (by assumption) | refine Chg.extS ?_ _ | refine Chg.alloc ?_ _ | refine Chg.drew ?_ | refine Chg.setCellE ?_ ?_ _ | refine le_addk ?_ _ | refine le_ext ?_ | refine le_alloc ?_ _ | refine le_setC ?_ _ _ | refine le_drew ?_ | assumption | (refine Nat.le_of_lt ?_; omega) | omega)))⟩
                      · rw [decide_eq_false (fun h => hm0 (hmm.2 h))] at e
                        have He := Lib.hid e
                        have hm1 : m < 0 := by omega
                        clear e ht1 hm hx hmm
                        go_wp2
                        refine wp_region_ext (by kernel_rfl) (by kernel_rfl) ?_
                        repeat (go_big_quiet_step (first | (go_at_call 72; (try rw [hw1]); exact quietSb (l1In_any _ _ _ _) T1.out) | (go_at_call 75; exact quietEi' (l7Find_n HP.out (by omega) hp.ext) T2.out)))
                        refine wpQuiet_nil ?_
                        rintro _ ⟨zz, rfl⟩
                        go_wp2
                        exact ⟨⟨k + 1, by go_num, by omega, (by refine Chg.isExt (F := []) ?_ (refl_ext _) (by simp); repeat (with_reducible (first | exact Chg.refl _ _ | exact Nat.le_refl _ | exact Chg.ofExt (by assumption) | refine Chg.trans0 ?_ (by assumption) | refine Chg.extS ?_ _ | refine Chg.alloc ?_ _ | refine Chg.drew ?_ | refine Chg.setCellE ?_ ?_ _ | refine le_addk ?_ _ | refine le_ext ?_ | refine le_alloc ?_ _ | refine le_setC ?_ _ _ | refine le_drew ?_ | assumption | (refine Nat.le_of_lt ?_; omega) | omega))), by simpa using He.out⟩, by simp [intOf]; omega⟩
                  · have e := Hj.out
                    rw [setB_end hlt] at e
                    have He := Lib.hid e
                    clear e
                    go_wp2
                    go_ret
                    exact ⟨by rw [HU.out, ← He.out]; rfl, trans_ext xW hy3⟩
theorem specIsValidQuery_any {A B : Option Addr} {c e1 : Nat} {d : Qd} {w : World} (hb : BQ d) (h : vQ w [.int .i64 d.1, .slice A d.2.1.length c, .slice B d.2.2.length e1] d) :
    Calls Try.prog 28 #[.agg #[.int .i64 d.1, .slice A d.2.1.length c, .slice B d.2.2.length e1]] w fun e w' => e = .returned (.bool (vqB d)) ∧ ∃ y, w' = ext w y := specIsValidQuery_w hb.w h
end Go.Proofs.Ytbjpkfgkmilkdaa

/- Texts compared. No program in it. -/
namespace Go.Proofs.Ytbjpkfgkmilkdaa
open Go.RowKit
theorem str_beqf {s t : ByteArray} (h : s ≠ t) : (s.toList == t.toList) = false := by rw [str_beq, decide_eq_false h]
theorem str_beqt {s t : ByteArray} (h : s = t) : (s.toList == t.toList) = true := by rw [str_beq, decide_eq_true h]
theorem str_bnef {s t : ByteArray} (h : s ≠ t) : (s.toList != t.toList) = true := by rw [bne, str_beqf h]; rfl
theorem str_bnet {s t : ByteArray} (h : s = t) : (s.toList != t.toList) = false := by rw [bne, str_beqt h]; rfl
end Go.Proofs.Ytbjpkfgkmilkdaa

/- Texts joined by a separator. -/
namespace Go.Proofs.Ytbjpkfgkmilkdaa
open Go.RowKit

theorem tS : SlT Try.prog 84 9 1 16 (.string ⟨#[]⟩) := ⟨Try.underlying84, by kernel_rfl, rfl, by omega⟩
/-! texts joined by a separator -/
def joinF (sep : ByteArray) : Nat → ByteArray → List ByteArray → ByteArray
  | _, acc, [] => acc
  | k, acc, p :: ps => joinF sep (k + 1) ((if 0 < k then acc ++ sep else acc) ++ p) ps
theorem joinF_step {sep acc : ByteArray} {ps : List ByteArray} {k : Nat} (h : k < ps.length) : joinF sep k acc (ps.drop k) = joinF sep (k + 1) ((if 0 < k then acc ++ sep else acc) ++ ps[k]) (ps.drop (k + 1)) := by
  rw [List.drop_eq_getElem_cons h, joinF]
set_option maxHeartbeats 1000000 in
theorem join_any {A : Option Addr} {c : Nat} {ps : List ByteArray} {sep : ByteArray} {w : World} (hx : ps.length ≤ 1000000000) (h1 : RS w A ps) (hs : sep.size ≤ 1000000000) (hp : ∀ j (h : j < ps.length), ps[j].size ≤ 1000000000) :
    Calls Try.prog 63 #[.slice A ps.length c, .string sep] w fun e w' => e = .returned (.string (joinF sep 0 ⟨#[]⟩ ps)) ∧ ∃ y, w' = ext w y := by
  have Hp := Lib.hid hp
  clear hp
  go_enter Try.func63, Try.ntmps63
  go_wp2
  go_loopw [5, 10] (fun o i wr => ∃ (k : Nat) (acc : ByteArray), o = .string acc ∧ i = .int .i64 k ∧ k ≤ ps.length ∧ acc.size ≤ 2000000000 * k ∧ joinF sep k acc (ps.drop k) = joinF sep 0 ⟨#[]⟩ ps ∧ ∃ y, wr = ext w y) (fun _ i _ => ps.length - (intOf i).toNat)
  case atStart => exact ⟨0, ⟨#[]⟩, rfl, rfl, by omega, by decide, by simp, refl_ext w⟩
  case round =>
    obtain ⟨k, acc, rfl, rfl, hk, ha, hj, hy⟩ := hrel
    have Hj := Lib.hid hj
    clear hj
    have h1' := h1.toExt hy
    by_cases hlt : k < ps.length
    · have hpk := Hp.out k hlt
      have e := Hj.out
      rw [joinF_step hlt] at e
      have He := Lib.hid e
      clear e
      obtain ⟨b, o, rfl, hb, hc⟩ := h1'.atS hlt
      have hsa := ba_size acc sep
      have hsb := ba_size (acc ++ sep) ps[k]
      have hsc := ba_size acc ps[k]
      by_cases h0 : 0 < k
      · have e := He.out
        rw [if_pos h0] at e
        have He := Lib.hid e
        clear e
        go_wp2
        exact ⟨⟨k + 1, acc ++ sep ++ ps[k], rfl, by go_num, by omega, by omega, He.out, hy⟩, by simp [intOf]; omega⟩
      · have e := He.out
        rw [if_neg h0] at e
        have He := Lib.hid e
        clear e
        go_wp2
        exact ⟨⟨k + 1, acc ++ ps[k], rfl, by go_num, by omega, by omega, He.out, hy⟩, by simp [intOf]; omega⟩
    · go_wp2
      go_ret
      have e := Hj.out
      rw [List.drop_eq_nil_of_le (by omega), joinF] at e
      exact ⟨by rw [← e]; rfl, hy⟩
theorem join_n {A : Option Addr} {c n : Nat} {ps : List ByteArray} {sep : ByteArray} {w : World} (hn : ps.length = n) (hx : n ≤ 1000000000) (h1 : RS w A ps) (hs : sep.size ≤ 1000000000) (hp : ∀ j (h : j < ps.length), ps[j].size ≤ 1000000000) :
    Calls Try.prog 63 #[.slice A n c, .string sep] w fun e w' => e = .returned (.string (joinF sep 0 ⟨#[]⟩ ps)) ∧ ∃ y, w' = ext w y := by
  subst hn
  exact join_any hx h1 hs hp
end Go.Proofs.Ytbjpkfgkmilkdaa

/- Queries as text; the program's way and the reference's. -/
namespace Go.Proofs.Ytbjpkfgkmilkdaa
open Go.RowKit

theorem ba_assoc (a b c : ByteArray) : a ++ b ++ c = a ++ (b ++ c) := bl_inj (by simp [bl])
theorem ba_nil (a : ByteArray) : a ++ ⟨#[]⟩ = a := bl_inj (by simp [bl])
theorem nil_ba (a : ByteArray) : ⟨#[]⟩ ++ a = a := bl_inj (by simp [bl])
def nmG : ByteArray → List Int → ByteArray
  | acc, [] => acc
  | acc, v :: vs => nmG (acc ++ vname v) vs
def names (l : List Int) : ByteArray := nmG ⟨#[]⟩ l
theorem nmG_eq : ∀ (l : List Int) (acc : ByteArray), nmG acc l = acc ++ names l
  | [], acc => by rw [names, nmG, nmG, ba_nil]
  | v :: vs, acc => by
    have e : names (v :: vs) = vname v ++ names vs := by
      show nmG (⟨#[]⟩ ++ vname v) vs = _
      rw [nil_ba, nmG_eq vs]
    rw [nmG, nmG_eq vs, e, ba_assoc]
theorem nmG_step {acc : ByteArray} {l : List Int} {k : Nat} (h : k < l.length) : nmG acc (l.drop k) = nmG (acc ++ vname l[k]) (l.drop (k + 1)) := by
  rw [List.drop_eq_getElem_cons h, nmG]
theorem nmG_end {acc : ByteArray} {l : List Int} {k : Nat} (h : ¬ k < l.length) : nmG acc (l.drop k) = acc := by
  rw [List.drop_eq_nil_of_le (by omega), nmG]
theorem vname_size (v : Int) : (vname v).size ≤ 1 := by
  unfold vname
  split
  · rw [ByteArray.size_extract]; omega
  · decide
theorem names_size : ∀ (l : List Int), (names l).size ≤ l.length
  | [] => by decide
  | v :: vs => by
    have h1 := names_size vs
    have h2 := vname_size v
    rw [show names (v :: vs) = nmG (⟨#[]⟩ ++ vname v) vs from rfl, nil_ba, nmG_eq, ba_size, List.length_cons]
    omega
def par (l : List Int) : ByteArray := ⟨#[40]⟩ ++ names l ++ ⟨#[41]⟩
def atomT (x : At) : ByteArray := x.1 ++ ⟨#[40]⟩ ++ names x.2 ++ ⟨#[41]⟩
def fmtQ (d : Qd) : ByteArray := if vqB d = true then ⟨#[40]⟩ ++ names d.2.2 ++ ⟨#[41, 61]⟩ ++ joinF ⟨#[44]⟩ 0 ⟨#[]⟩ (d.2.1.map atomT) else ⟨#[]⟩
theorem atomT_par (x : At) : x.1 ++ par x.2 = atomT x := by unfold par atomT; simp only [ba_assoc]
theorem joinF_acc (sep : ByteArray) : ∀ (ps : List ByteArray) (k : Nat) (acc : ByteArray), joinF sep k acc ps = acc ++ joinF sep k ⟨#[]⟩ ps
  | [], k, acc => by rw [joinF, joinF, ba_nil]
  | p :: ps, k, acc => by
    rw [joinF, joinF, joinF_acc sep ps, joinF_acc sep ps (k + 1) ((if 0 < k then ⟨#[]⟩ ++ sep else ⟨#[]⟩) ++ p)]
    split
    · simp only [nil_ba, ba_assoc]
    · simp only [nil_ba, ba_assoc]
theorem fmtQ_par {d : Qd} (h : vqB d = true) : joinF ⟨#[44]⟩ 0 (par d.2.2 ++ ⟨#[61]⟩) (d.2.1.map atomT) = fmtQ d := by
  unfold fmtQ
  rw [if_pos h, joinF_acc]
  congr 1
  unfold par
  rw [ba_assoc, show (⟨#[41]⟩ ++ ⟨#[61]⟩ : ByteArray) = ⟨#[41, 61]⟩ from rfl]
theorem vqB_facts {d : Qd} (h : vqB d = true) : d.2.1.length ≤ 4 ∧ d.2.2.length ≤ 5 ∧ ∀ x ∈ d.2.1, x.1.size ≤ 4 ∧ x.2.length ≤ 5 := by
  unfold vqB at h
  simp only [Bool.and_eq_true, List.all_eq_true] at h
  obtain ⟨⟨⟨⟨h1, h2⟩, h3⟩, h4⟩, _⟩ := h
  have h1 := inB_t h1
  have h2 := inB_t h2
  have h3 := setB_len h3 (by omega)
  refine ⟨by omega, by omega, fun x hx => ?_⟩
  have h5 := h4 x hx
  unfold atomB nameB at h5
  simp only [Bool.and_eq_true] at h5
  obtain ⟨⟨⟨h6, _⟩, h7⟩, _⟩ := h5
  have h6 := inB_t h6
  have h7 := inB_t h7
  omega
theorem atomT_size {x : At} (h1 : x.1.size ≤ 4) (h2 : x.2.length ≤ 5) : (atomT x).size ≤ 20 := by
  have := names_size x.2
  unfold atomT
  rw [ba_size, ba_size, ba_size, show (ByteArray.mk #[40]).size = 1 from rfl, show (ByteArray.mk #[41]).size = 1 from rfl]
  omega
theorem joinF_size (m : Nat) : ∀ (ps : List ByteArray) (k : Nat) (acc : ByteArray), (∀ p ∈ ps, p.size ≤ m) → (joinF ⟨#[44]⟩ k acc ps).size ≤ acc.size + ps.length * (m + 1)
  | [], k, acc, _ => by simp [joinF]
  | p :: ps, k, acc, h => by
    have h1 := h p (by simp)
    have ih := joinF_size m ps (k + 1) ((if 0 < k then acc ++ ⟨#[44]⟩ else acc) ++ p) fun q hq => h q (by simp [hq])
    have h2 : ((if 0 < k then acc ++ ⟨#[44]⟩ else acc) ++ p).size ≤ acc.size + 1 + p.size := by
      rw [ba_size]
      split
      · rw [ba_size, show (ByteArray.mk #[44]).size = 1 from rfl]; omega
      · omega
    rw [joinF, List.length_cons, Nat.add_mul]
    omega
set_option maxHeartbeats 400000 in
theorem namesOf_any {A : Option Addr} {c : Nat} {xs : List Int} {w : World} (hx : xs.length ≤ 1000000) (h1 : RI w A xs) :
    Calls Try.prog 62 #[.slice A xs.length c] w fun e w' => e = .returned (.string (names xs)) ∧ ∃ y, w' = ext w y := by
  go_enter Try.func62, Try.ntmps62
  go_wp2
  go_loopw [3, 8] (fun s i wr => ∃ (k : Nat) (acc : ByteArray), s = .string acc ∧ i = .int .i64 k ∧ k ≤ xs.length ∧ acc.size ≤ k ∧ nmG acc (xs.drop k) = names xs ∧ ∃ y, wr = ext w y) (fun _ i _ => xs.length - (intOf i).toNat)
  case atStart => exact ⟨0, ⟨#[]⟩, rfl, rfl, by omega, by decide, by simp [names], refl_ext w⟩
  case round =>
    obtain ⟨k, acc, rfl, rfl, hk, ha, hj, hy⟩ := hrel
    have Hj := Lib.hid hj
    clear hj
    by_cases hlt : k < xs.length
    · obtain ⟨b, o, rfl, hb, hc⟩ := (h1.toExt hy).atI hlt
      have hs := vname_size xs[k]
      have hss := ba_size acc (vname xs[k])
      have He := Lib.hid ((nmG_step hlt).symm.trans Hj.out)
      go_wp2_with (go_at_call 101; refine (VariableName_any _ _).mono ?_; rintro e w' ⟨rfl, rfl⟩)
      exact ⟨⟨k + 1, acc ++ vname xs[k], rfl, by go_num, by omega, by omega, He.out, hy⟩, by simp [intOf]; omega⟩
    · have e := Hj.out
      rw [nmG_end hlt] at e
      have He := Lib.hid e
      clear e
      go_wp2
      go_ret
      exact ⟨by rw [← He.out]; rfl, hy⟩
set_option maxHeartbeats 400000 in
theorem l7Vars_any {A : Option Addr} {c : Nat} {xs : List Int} {w : World} (hx : xs.length ≤ 1000000) (h1 : RI w A xs) :
    Calls Try.prog 102 #[.slice A xs.length c] w fun e w' => e = .returned (.string (par xs)) ∧ ∃ y, w' = ext w y := by
  go_enter Try.func102, Try.ntmps102
  go_wp2
  go_loopw [3, 4] (fun s i wr => ∃ (k : Nat) (acc : ByteArray), s = .string acc ∧ i = .int .i64 k ∧ k ≤ xs.length ∧ acc.size ≤ k + 1 ∧ nmG acc (xs.drop k) = ⟨#[40]⟩ ++ names xs ∧ ∃ y, wr = ext w y) (fun _ i _ => xs.length - (intOf i).toNat)
  case atStart => exact ⟨0, ⟨#[40]⟩, rfl, rfl, by omega, by decide, by rw [List.drop_zero, nmG_eq], refl_ext w⟩
  case round =>
    obtain ⟨k, acc, rfl, rfl, hk, ha, hj, hy⟩ := hrel
    have Hj := Lib.hid hj
    clear hj
    by_cases hlt : k < xs.length
    · obtain ⟨b, o, rfl, hb, hc⟩ := (h1.toExt hy).atI hlt
      have hs := vname_size xs[k]
      have hss := ba_size acc (vname xs[k])
      have He := Lib.hid ((nmG_step hlt).symm.trans Hj.out)
      go_wp2_with (go_at_call 70; refine (specVariableName_any _ _).mono ?_; rintro e w' ⟨rfl, rfl⟩)
      exact ⟨⟨k + 1, acc ++ vname xs[k], rfl, by go_num, by omega, by omega, He.out, hy⟩, by simp [intOf]; omega⟩
    · have e := Hj.out
      rw [nmG_end hlt] at e
      have He := Lib.hid (show acc ++ ⟨#[41]⟩ = par xs by rw [e]; rfl)
      have h41 : (ByteArray.mk #[41]).size = 1 := rfl
      clear e
      go_wp2
      go_ret
      exact ⟨by rw [← He.out]; rfl, hy⟩
set_option maxRecDepth 100000 in
set_option maxHeartbeats 4000000 in
theorem FormatQuery_w {A B : Option Addr} {c e1 : Nat} {d : Qd} {w : World} (hb : WQ d) (h : vQ w [.int .i64 d.1, .slice A d.2.1.length c, .slice B d.2.2.length e1] d) :
    Calls Try.prog 24 #[.agg #[.int .i64 d.1, .slice A d.2.1.length c, .slice B d.2.2.length e1]] w fun e w' => e = .returned (.string (fmtQ d)) ∧ ∃ y, w' = ext w y := by
  have HB := Lib.hid hb
  have HV := Lib.hid h
  obtain ⟨r1, r2, _⟩ := vQ_get h
  have r1 := (vAts_get r1).2
  obtain ⟨z, ats, out⟩ := d
  dsimp only at r1 r2 ⊢
  clear h hb
  obtain ⟨t1, ht1⟩ : ∃ t, vqB (z, ats, out) = t := ⟨_, rfl⟩
  have N1 := Lib.hid ht1
  cases t1 with
  | false =>
    have HE := Lib.hid (show fmtQ (z, ats, out) = ⟨#[]⟩ by unfold fmtQ; rw [ht1]; rfl)
    clear ht1
    go_enter Try.func24, Try.ntmps24
    go_wp2_with (go_at_call 29; refine (IsValidQuery_w (d := (z, ats, out)) HB.out (VD.toExt HV.out (by refine Chg.isExt (F := []) ?_ (refl_ext _) (by simp); repeat (with_reducible (first | exact Chg.refl _ _ | exact Nat.le_refl _ | exact Chg.ofExt (by assumption) | refine Chg.trans0 ?_ (by assumption) | refine Chg.extS ?_ _ | refine Chg.alloc ?_ _ | refine Chg.drew ?_ | refine Chg.setCellE ?_ ?_ _ | refine le_addk ?_ _ | refine le_ext ?_ | refine le_alloc ?_ _ | refine le_setC ?_ _ _ | refine le_drew ?_ | assumption | (refine Nat.le_of_lt ?_; omega) | omega))))).mono ?_; rintro e w1 ⟨rfl, hx1⟩; rw [N1.out])
    go_ret
    exact ⟨by rw [HE.out]; rfl, (by refine Chg.isExt (F := []) ?_ (refl_ext _) (by simp); repeat (with_reducible (first | exact Chg.refl _ _ | exact Nat.le_refl _ | exact Chg.ofExt (by assumption) | refine Chg.trans0 ?_ (by assumption) | refine Chg.extS ?_ _ | refine Chg.alloc ?_ _ | refine Chg.drew ?_ | refine Chg.setCellE ?_ ?_ _ | refine le_addk ?_ _ | refine le_ext ?_ | refine le_alloc ?_ _ | refine le_setC ?_ _ _ | refine le_drew ?_ | assumption | (refine Nat.le_of_lt ?_; omega) | omega)))⟩
  | true =>
    have HE := Lib.hid (show fmtQ (z, ats, out) = ⟨#[40]⟩ ++ names out ++ ⟨#[41, 61]⟩ ++ joinF ⟨#[44]⟩ 0 ⟨#[]⟩ (ats.map atomT) by unfold fmtQ; rw [if_pos ht1])
    obtain ⟨g1, g2, g3⟩ := vqB_facts ht1
    dsimp only at g1 g2 g3
    have Hx := Lib.hid g3
    clear ht1 g3
    go_enter Try.func24, Try.ntmps24
    go_wp2_with (go_at_call 29; refine (IsValidQuery_w (d := (z, ats, out)) HB.out (VD.toExt HV.out (by refine Chg.isExt (F := []) ?_ (refl_ext _) (by simp); repeat (with_reducible (first | exact Chg.refl _ _ | exact Nat.le_refl _ | exact Chg.ofExt (by assumption) | refine Chg.trans0 ?_ (by assumption) | refine Chg.extS ?_ _ | refine Chg.alloc ?_ _ | refine Chg.drew ?_ | refine Chg.setCellE ?_ ?_ _ | refine le_addk ?_ _ | refine le_ext ?_ | refine le_alloc ?_ _ | refine le_setC ?_ _ _ | refine le_drew ?_ | assumption | (refine Nat.le_of_lt ?_; omega) | omega))))).mono ?_; rintro e w1 ⟨rfl, hx1⟩; rw [N1.out]; have P1 := (BoxAt.new w #[.int .i64 z, .slice A ats.length c, .slice B out.length e1] 44).toExt hx1; obtain ⟨l1, a1, a1', a1'', f1⟩ := box3 P1)
    have hxw : ∃ y, w1 = ext w y := (by refine Chg.isExt (F := []) ?_ (refl_ext _) (by simp); repeat (with_reducible (first | exact Chg.refl _ _ | exact Nat.le_refl _ | exact Chg.ofExt (by assumption) | refine Chg.trans0 ?_ (by assumption) | refine Chg.extS ?_ _ | refine Chg.alloc ?_ _ | refine Chg.drew ?_ | refine Chg.setCellE ?_ ?_ _ | refine le_addk ?_ _ | refine le_ext ?_ | refine le_alloc ?_ _ | refine le_setC ?_ _ _ | refine le_drew ?_ | assumption | (refine Nat.le_of_lt ?_; omega) | omega)))
    go_loopw [3, 12] (fun v i wr => ∃ (k : Nat) (F : List Nat), i = .int .i64 k ∧ k ≤ ats.length ∧ SV 9 1 sS wr v ((ats.take k).map atomT) F ∧ (∀ b ∈ F, w1.heap.size ≤ b) ∧ ∃ y, wr = ext w1 y) (fun _ i _ => ats.length - (intOf i).toNat)
    case atStart => exact ⟨0, [], rfl, by omega, SV.nil, by simp, refl_ext _⟩
    case round =>
      obtain ⟨k, F, rfl, hk, hS, hF, hy⟩ := hrel
      have HF := Lib.hid hF
      clear hF
      by_cases hlt : k < ats.length
      · obtain ⟨b, o, A', c', rfl, hb, hc, hd, hv⟩ := (r1.toExt (trans_ext hxw hy)).atA hlt
        obtain ⟨x1, x2⟩ := Hx.out ats[k] (List.getElem_mem hlt)
        obtain ⟨T, hT⟩ : ∃ T, atomT ats[k] = T := ⟨_, rfl⟩
        have HS := Lib.hid (show ((ats.take k).map atomT) ++ [T] = (ats.take (k + 1)).map atomT by rw [List.take_succ_eq_append_getElem hlt, List.map_append, ← hT]; rfl)
        have hlk : ((ats.take k).map atomT).length + 1 ≤ 2000000000 := by simp; omega
        obtain ⟨s, hs⟩ : ∃ s, ats[k].1 = s := ⟨_, rfl⟩
        obtain ⟨xs, hxs⟩ : ∃ xs, ats[k].2 = xs := ⟨_, rfl⟩
        have HA := Lib.hid (show s ++ ⟨#[40]⟩ ++ names xs ++ ⟨#[41]⟩ = T by rw [← hT]; unfold atomT; rw [hs, hxs])
        rw [hs] at hc x1
        rw [hxs] at hd hv x2
        have z1 := names_size xs
        have z2 := ba_size s ⟨#[40]⟩
        have z3 := ba_size (s ++ ⟨#[40]⟩) (names xs)
        have z4 := ba_size (s ++ ⟨#[40]⟩ ++ names xs) ⟨#[41]⟩
        have z5 : (ByteArray.mk #[40]).size = 1 := rfl
        have z6 : (ByteArray.mk #[41]).size = 1 := rfl
        have y2 : ¬ (9223372036854775807 < s.size + 1) := by omega
        have y6 : ¬ (9223372036854775807 < s.size + 1 + (names xs).size) := by omega
        have y7 : ¬ (9223372036854775807 < s.size + 1 + (names xs).size + 1) := by omega
        have k00 : (wr.alloc (.cells #[.string s, .slice A' xs.length c'] 89)).cell? ⟨wr.heap.size, 0, none⟩ = some (.string s) := by simp
        have k01 : (wr.alloc (.cells #[.string s, .slice A' xs.length c'] 89)).cell? ⟨wr.heap.size, 1, none⟩ = some (.slice A' xs.length c') := by simp
        have hnF : wr.heap.size ∉ F := fun h => by have := hS.lt _ h; omega
        clear hs hxs hT
        go_wp2_with fail
        go_region_held3 (fun w' => w'.cell? ⟨wr.heap.size, 0, none⟩ = some (.string s) ∧ w'.cell? ⟨wr.heap.size, 1, none⟩ = some (.slice A' xs.length c')) (first | go_keep | exact ⟨k0, k1⟩ | (refine ⟨?_, ?_⟩ <;> (rw [hC'.cell hnF kl]; assumption)))
          (first
            | (go_at_call 62; refine (namesOf_any (by omega) (hv.toExt (by refine Chg.isExt (F := []) ?_ (refl_ext _) (by simp); repeat (with_reducible (first | exact Chg.refl _ _ | exact Nat.le_refl _ | exact Chg.ofExt (by assumption) | refine Chg.trans0 ?_ (by assumption) | refine Chg.extS ?_ _ | refine Chg.alloc ?_ _ | refine Chg.drew ?_ | refine Chg.setCellE ?_ ?_ _ | refine le_addk ?_ _ | refine le_ext ?_ | refine le_alloc ?_ _ | refine le_setC ?_ _ _ | refine le_drew ?_ | assumption | (refine Nat.le_of_lt ?_; omega) | omega))))).mono ?_; rintro e w2 ⟨rfl, hx2⟩; have k0 : w2.cell? ⟨wr.heap.size, 0, none⟩ = some (.string s) := (by obtain ⟨y, e⟩ := hx2; rw [e, cell_ext (by simp)]; simp); have k1 : w2.cell? ⟨wr.heap.size, 1, none⟩ = some (.slice A' xs.length c') := (by obtain ⟨y, e⟩ := hx2; rw [e, cell_ext (by simp)]; simp); have kl : wr.heap.size < w2.heap.size := (by obtain ⟨y, e⟩ := hx2; rw [e]; exact lt_ext (by simp)))
            | (refine step_app1 (E := sS) (d := T) (by rfl) _ _ _ (by rfl) tS (by rfl) (by rfl) (by rfl) (by simp) (fun _ => ⟨by rw [HA.out], rfl⟩) (by rfl) (by simp [Value.oneCell']) (hS.toExt (by refine Chg.isExt (F := []) ?_ (refl_ext _) (by simp); repeat (with_reducible (first | exact Chg.refl _ _ | exact Nat.le_refl _ | exact Chg.ofExt (by assumption) | refine Chg.trans0 ?_ (by assumption) | refine Chg.extS ?_ _ | refine Chg.alloc ?_ _ | refine Chg.drew ?_ | refine Chg.setCellE ?_ ?_ _ | refine le_addk ?_ _ | refine le_ext ?_ | refine le_alloc ?_ _ | refine le_setC ?_ _ _ | refine le_drew ?_ | assumption | (refine Nat.le_of_lt ?_; omega) | omega)))) hlk (by omega) ?_; intro v' w' F' hS' hC' hF'))
        all_goals
          go_wp2
          exact ⟨⟨k + 1, F', by go_num, by omega, by rw [← HS.out]; exact hS', newer HF.out (size_of_ext (by refine Chg.isExt (F := []) ?_ (refl_ext _) (by simp); repeat (with_reducible (first | exact Chg.refl _ _ | exact Nat.le_refl _ | exact Chg.ofExt (by assumption) | refine Chg.trans0 ?_ (by assumption) | refine Chg.extS ?_ _ | refine Chg.alloc ?_ _ | refine Chg.drew ?_ | refine Chg.setCellE ?_ ?_ _ | refine le_addk ?_ _ | refine le_ext ?_ | refine le_alloc ?_ _ | refine le_setC ?_ _ _ | refine le_drew ?_ | assumption | (refine Nat.le_of_lt ?_; omega) | omega)))) hF', hC'.isExt (by refine Chg.isExt (F := []) ?_ (refl_ext _) (by simp); repeat (with_reducible (first | exact Chg.refl _ _ | exact Nat.le_refl _ | exact Chg.ofExt (by assumption) | refine Chg.trans0 ?_ (by assumption) | refine Chg.extS ?_ _ | refine Chg.alloc ?_ _ | refine Chg.drew ?_ | refine Chg.setCellE ?_ ?_ _ | refine le_addk ?_ _ | refine le_ext ?_ | refine le_alloc ?_ _ | refine le_setC ?_ _ _ | refine le_drew ?_ | assumption | (refine Nat.le_of_lt ?_; omega) | omega))) HF.out⟩, by simp [intOf]; omega⟩
      · rw [List.take_of_length_le (by omega)] at hS
        obtain ⟨A2, c2, rfl, _, _, hV⟩ := hS.view sS_v
        obtain ⟨l2, a2, a2', a2'', f2⟩ := box3 (P1.toExt hy)
        have HJ := Lib.hid (show ∀ j (h : j < (ats.map atomT).length), (ats.map atomT)[j].size ≤ 1000000000 by
          intro j h
          have h' : j < ats.length := by simpa using h
          obtain ⟨x1, x2⟩ := Hx.out ats[j] (List.getElem_mem h')
          have := atomT_size x1 x2
          simp
          omega)
        rw [List.length_map] at *
        have z1 := names_size out
        have z5 : (ByteArray.mk #[40]).size = 1 := rfl
        have z6 : (ByteArray.mk #[41, 61]).size = 2 := rfl
        have z2 := ba_size ⟨#[40]⟩ (names out)
        have z3 := ba_size (⟨#[40]⟩ ++ names out) ⟨#[41, 61]⟩
        obtain ⟨J, hJ⟩ : ∃ J, joinF ⟨#[44]⟩ 0 ⟨#[]⟩ (ats.map atomT) = J := ⟨_, rfl⟩
        have HJJ := Lib.hid hJ
        have hJs : J.size ≤ 1000 := by
          rw [← hJ]
          have := joinF_size 20 (ats.map atomT) 0 ⟨#[]⟩ (fun p hp => by obtain ⟨x, hx, rfl⟩ := List.mem_map.1 hp; exact atomT_size (Hx.out x hx).1 (Hx.out x hx).2)
          rw [List.length_map, show (ByteArray.mk #[]).size = 0 from rfl] at this
          omega
        clear hJ
        go_wp2_with (first
          | (go_at_call 62; refine (namesOf_any (by omega) (r2.toExt (trans_ext hxw hy))).mono ?_; rintro e w2 ⟨rfl, hx2⟩)
          | (go_at_call 63; refine (join_n (ps := ats.map atomT) (by simp) (by omega) (hV.toExt (by refine Chg.isExt (F := []) ?_ (refl_ext _) (by simp); repeat (with_reducible (first | exact Chg.refl _ _ | exact Nat.le_refl _ | exact Chg.ofExt (by assumption) | refine Chg.trans0 ?_ (by assumption) | refine Chg.extS ?_ _ | refine Chg.alloc ?_ _ | refine Chg.drew ?_ | refine Chg.setCellE ?_ ?_ _ | refine le_addk ?_ _ | refine le_ext ?_ | refine le_alloc ?_ _ | refine le_setC ?_ _ _ | refine le_drew ?_ | assumption | (refine Nat.le_of_lt ?_; omega) | omega)))) (by decide) HJ.out).mono ?_; rintro e w3 ⟨rfl, hx3⟩; rw [HJJ.out]))
        go_ret
        exact ⟨by rw [HE.out, HJJ.out]; rfl, (by refine Chg.isExt (F := []) ?_ (refl_ext _) (by simp); repeat (with_reducible (first | exact Chg.refl _ _ | exact Nat.le_refl _ | exact Chg.ofExt (by assumption) | refine Chg.trans0 ?_ (by assumption) | refine Chg.extS ?_ _ | refine Chg.alloc ?_ _ | refine Chg.drew ?_ | refine Chg.setCellE ?_ ?_ _ | refine le_addk ?_ _ | refine le_ext ?_ | refine le_alloc ?_ _ | refine le_setC ?_ _ _ | refine le_drew ?_ | assumption | (refine Nat.le_of_lt ?_; omega) | omega)))⟩
theorem FormatQuery_any {A B : Option Addr} {c e1 : Nat} {d : Qd} {w : World} (hb : BQ d) (h : vQ w [.int .i64 d.1, .slice A d.2.1.length c, .slice B d.2.2.length e1] d) :
    Calls Try.prog 24 #[.agg #[.int .i64 d.1, .slice A d.2.1.length c, .slice B d.2.2.length e1]] w fun e w' => e = .returned (.string (fmtQ d)) ∧ ∃ y, w' = ext w y := FormatQuery_w hb.w h
theorem par_size (l : List Int) : (par l).size ≤ l.length + 2 := by
  have := names_size l
  unfold par
  rw [ba_size, ba_size, show (ByteArray.mk #[40]).size = 1 from rfl, show (ByteArray.mk #[41]).size = 1 from rfl]
  omega
set_option maxHeartbeats 4000000 in
theorem specFormatQuery_w {A B : Option Addr} {c e1 : Nat} {d : Qd} {w : World} (hb : WQ d) (h : vQ w [.int .i64 d.1, .slice A d.2.1.length c, .slice B d.2.2.length e1] d) :
    Calls Try.prog 64 #[.agg #[.int .i64 d.1, .slice A d.2.1.length c, .slice B d.2.2.length e1]] w fun e w' => e = .returned (.string (fmtQ d)) ∧ ∃ y, w' = ext w y := by
  have HB := Lib.hid hb
  have HV := Lib.hid h
  obtain ⟨r1, r2, _⟩ := vQ_get h
  have r1 := (vAts_get r1).2
  obtain ⟨z, ats, out⟩ := d
  dsimp only at r1 r2 ⊢
  clear h hb
  obtain ⟨t1, ht1⟩ : ∃ t, vqB (z, ats, out) = t := ⟨_, rfl⟩
  have N1 := Lib.hid ht1
  cases t1 with
  | false =>
    have HE := Lib.hid (show fmtQ (z, ats, out) = ⟨#[]⟩ by unfold fmtQ; rw [ht1]; rfl)
    clear ht1
    go_enter Try.func64, Try.ntmps64
    go_wp2_with (go_at_call 28; refine (specIsValidQuery_w (d := (z, ats, out)) HB.out (VD.toExt HV.out (by refine Chg.isExt (F := []) ?_ (refl_ext _) (by simp); repeat (with_reducible (first | exact Chg.refl _ _ | exact Nat.le_refl _ | exact Chg.ofExt (by assumption) | refine Chg.trans0 ?_ (by assumption) | refine Chg.extS ?_ _ | refine Chg.alloc ?_ _ | refine Chg.drew ?_ | refine Chg.setCellE ?_ ?_ _ | refine le_addk ?_ _ | refine le_ext ?_ | refine le_alloc ?_ _ | refine le_setC ?_ _ _ | refine le_drew ?_ | assumption | (refine Nat.le_of_lt ?_; omega) | omega))))).mono ?_; rintro e w1 ⟨rfl, hx1⟩; rw [N1.out])
    go_ret
    exact ⟨by rw [HE.out]; rfl, (by refine Chg.isExt (F := []) ?_ (refl_ext _) (by simp); repeat (with_reducible (first | exact Chg.refl _ _ | exact Nat.le_refl _ | exact Chg.ofExt (by assumption) | refine Chg.trans0 ?_ (by assumption) | refine Chg.extS ?_ _ | refine Chg.alloc ?_ _ | refine Chg.drew ?_ | refine Chg.setCellE ?_ ?_ _ | refine le_addk ?_ _ | refine le_ext ?_ | refine le_alloc ?_ _ | refine le_setC ?_ _ _ | refine le_drew ?_ | assumption | (refine Nat.le_of_lt ?_; omega) | omega)))⟩
  | true =>
    have HE := Lib.hid (fmtQ_par ht1)
    obtain ⟨g1, g2, g3⟩ := vqB_facts ht1
    dsimp only at g1 g2 g3
    have Hx := Lib.hid g3
    clear ht1 g3
    have z1 := par_size out
    have z5 : (ByteArray.mk #[61]).size = 1 := rfl
    have z2 := ba_size (par out) ⟨#[61]⟩
    go_enter Try.func64, Try.ntmps64
    go_wp2_with (first
      | (go_at_call 28; refine (specIsValidQuery_w (d := (z, ats, out)) HB.out (VD.toExt HV.out (by refine Chg.isExt (F := []) ?_ (refl_ext _) (by simp); repeat (with_reducible (first | exact Chg.refl _ _ | exact Nat.le_refl _ | exact Chg.ofExt (by assumption) | refine Chg.trans0 ?_ (by assumption) | refine Chg.extS ?_ _ | refine Chg.alloc ?_ _ | refine Chg.drew ?_ | refine Chg.setCellE ?_ ?_ _ | refine le_addk ?_ _ | refine le_ext ?_ | refine le_alloc ?_ _ | refine le_setC ?_ _ _ | refine le_drew ?_ | assumption | (refine Nat.le_of_lt ?_; omega) | omega))))).mono ?_; rintro e w1 ⟨rfl, hx1⟩; rw [N1.out]; have P1 := (BoxAt.new w #[.int .i64 z, .slice A ats.length c, .slice B out.length e1] 44).toExt hx1; obtain ⟨l1, a1, a1', a1'', f1⟩ := box3 P1)
      | (go_at_call 102; refine (l7Vars_any (by omega) (r2.toExt (by refine Chg.isExt (F := []) ?_ (refl_ext _) (by simp); repeat (with_reducible (first | exact Chg.refl _ _ | exact Nat.le_refl _ | exact Chg.ofExt (by assumption) | refine Chg.trans0 ?_ (by assumption) | refine Chg.extS ?_ _ | refine Chg.alloc ?_ _ | refine Chg.drew ?_ | refine Chg.setCellE ?_ ?_ _ | refine le_addk ?_ _ | refine le_ext ?_ | refine le_alloc ?_ _ | refine le_setC ?_ _ _ | refine le_drew ?_ | assumption | (refine Nat.le_of_lt ?_; omega) | omega))))).mono ?_; rintro e w2 ⟨rfl, hx2⟩))
    have hxw : ∃ y, w1 = ext w y := (by refine Chg.isExt (F := []) ?_ (refl_ext _) (by simp); repeat (with_reducible (first | exact Chg.refl _ _ | exact Nat.le_refl _ | exact Chg.ofExt (by assumption) | refine Chg.trans0 ?_ (by assumption) | refine Chg.extS ?_ _ | refine Chg.alloc ?_ _ | refine Chg.drew ?_ | refine Chg.setCellE ?_ ?_ _ | refine le_addk ?_ _ | refine le_ext ?_ | refine le_alloc ?_ _ | refine le_setC ?_ _ _ | refine le_drew ?_ | assumption | (refine Nat.le_of_lt ?_; omega) | omega)))
    go_loopw [3, 4] (fun v i wr => ∃ (k : Nat) (acc : ByteArray), i = .int .i64 k ∧ v = .string acc ∧ k ≤ ats.length ∧ acc.size ≤ 10 + 30 * k ∧ joinF ⟨#[44]⟩ k acc ((ats.drop k).map atomT) = joinF ⟨#[44]⟩ 0 (par out ++ ⟨#[61]⟩) (ats.map atomT) ∧ ∃ y, wr = ext w1 y) (fun _ i _ => ats.length - (intOf i).toNat)
    case atStart => exact ⟨0, _, rfl, rfl, by omega, by omega, by simp, hx2⟩
    case round =>
      obtain ⟨k, acc, rfl, rfl, hk, ha, hj, hy⟩ := hrel
      have Hj := Lib.hid hj
      clear hj
      obtain ⟨l2, a2, a2', a2'', f2⟩ := box3 (P1.toExt hy)
      by_cases hlt : k < ats.length
      · obtain ⟨b, o, A', c', rfl, hb, hc, hd, hv⟩ := (r1.toExt (trans_ext hxw hy)).atA hlt
        obtain ⟨x1, x2⟩ := Hx.out ats[k] (List.getElem_mem hlt)
        have HA := Lib.hid (atomT_par ats[k])
        have e := Hj.out
        rw [List.drop_eq_getElem_cons hlt, List.map_cons, joinF] at e
        obtain ⟨s, hs⟩ : ∃ s, ats[k].1 = s := ⟨_, rfl⟩
        obtain ⟨xs, hxs⟩ : ∃ xs, ats[k].2 = xs := ⟨_, rfl⟩
        rw [← atomT_par, hs, hxs] at e
        rw [hs] at hc x1
        rw [hxs] at hd hv x2
        have y1 := par_size xs
        have y5 : (ByteArray.mk #[44]).size = 1 := rfl
        clear hs hxs
        by_cases h0 : 0 < k
        · rw [if_pos h0] at e
          have y2 := ba_size acc ⟨#[44]⟩
          have y3 := ba_size (acc ++ ⟨#[44]⟩) s
          have y4 := ba_size (acc ++ ⟨#[44]⟩ ++ s) (par xs)
          have He := Lib.hid (show joinF ⟨#[44]⟩ (k + 1) (acc ++ ⟨#[44]⟩ ++ s ++ par xs) ((ats.drop (k + 1)).map atomT) = joinF ⟨#[44]⟩ 0 (par out ++ ⟨#[61]⟩) (ats.map atomT) by rw [← e, ba_assoc (acc ++ ⟨#[44]⟩)])
          clear e
          go_wp2
          refine wp_region_ext (by kernel_rfl) (by kernel_rfl) ?_
          repeat (go_big_quiet_step ((go_at_call 102; exact quietE (l7Vars_any (by omega) hv.ext))))
          refine wpQuiet_nil ?_
          rintro _ ⟨zz, rfl⟩
          go_wp2
          exact ⟨⟨k + 1, acc ++ ⟨#[44]⟩ ++ s ++ par xs, by go_num, rfl, by omega, by omega, He.out, (by refine Chg.isExt (F := []) ?_ (refl_ext _) (by simp); repeat (with_reducible (first | exact Chg.refl _ _ | exact Nat.le_refl _ | exact Chg.ofExt (by assumption) | refine Chg.trans0 ?_ (by assumption) | refine Chg.extS ?_ _ | refine Chg.alloc ?_ _ | refine Chg.drew ?_ | refine Chg.setCellE ?_ ?_ _ | refine le_addk ?_ _ | refine le_ext ?_ | refine le_alloc ?_ _ | refine le_setC ?_ _ _ | refine le_drew ?_ | assumption | (refine Nat.le_of_lt ?_; omega) | omega)))⟩, by simp [intOf]; omega⟩
        · rw [if_neg h0] at e
          have y3 := ba_size acc s
          have y4 := ba_size (acc ++ s) (par xs)
          have He := Lib.hid (show joinF ⟨#[44]⟩ (k + 1) (acc ++ s ++ par xs) ((ats.drop (k + 1)).map atomT) = joinF ⟨#[44]⟩ 0 (par out ++ ⟨#[61]⟩) (ats.map atomT) by rw [← e, ba_assoc acc])
          clear e
          go_wp2
          refine wp_region_ext (by kernel_rfl) (by kernel_rfl) ?_
          repeat (go_big_quiet_step ((go_at_call 102; exact quietE (l7Vars_any (by omega) hv.ext))))
          refine wpQuiet_nil ?_
          rintro _ ⟨zz, rfl⟩
          go_wp2
          exact ⟨⟨k + 1, acc ++ s ++ par xs, by go_num, rfl, by omega, by omega, He.out, (by refine Chg.isExt (F := []) ?_ (refl_ext _) (by simp); repeat (with_reducible (first | exact Chg.refl _ _ | exact Nat.le_refl _ | exact Chg.ofExt (by assumption) | refine Chg.trans0 ?_ (by assumption) | refine Chg.extS ?_ _ | refine Chg.alloc ?_ _ | refine Chg.drew ?_ | refine Chg.setCellE ?_ ?_ _ | refine le_addk ?_ _ | refine le_ext ?_ | refine le_alloc ?_ _ | refine le_setC ?_ _ _ | refine le_drew ?_ | assumption | (refine Nat.le_of_lt ?_; omega) | omega)))⟩, by simp [intOf]; omega⟩
      · have e := Hj.out
        rw [List.drop_eq_nil_of_le (by omega), List.map_nil, joinF] at e
        have He := Lib.hid (e.trans HE.out)
        clear e
        go_wp2
        go_ret
        exact ⟨by rw [← He.out]; rfl, (by refine Chg.isExt (F := []) ?_ (refl_ext _) (by simp); repeat (with_reducible (first | exact Chg.refl _ _ | exact Nat.le_refl _ | exact Chg.ofExt (by assumption) | refine Chg.trans0 ?_ (by assumption) | refine Chg.extS ?_ _ | refine Chg.alloc ?_ _ | refine Chg.drew ?_ | refine Chg.setCellE ?_ ?_ _ | refine le_addk ?_ _ | refine le_ext ?_ | refine le_alloc ?_ _ | refine le_setC ?_ _ _ | refine le_drew ?_ | assumption | (refine Nat.le_of_lt ?_; omega) | omega)))⟩
theorem specFormatQuery_any {A B : Option Addr} {c e1 : Nat} {d : Qd} {w : World} (hb : BQ d) (h : vQ w [.int .i64 d.1, .slice A d.2.1.length c, .slice B d.2.2.length e1] d) :
    Calls Try.prog 64 #[.agg #[.int .i64 d.1, .slice A d.2.1.length c, .slice B d.2.2.length e1]] w fun e w' => e = .returned (.string (fmtQ d)) ∧ ∃ y, w' = ext w y := specFormatQuery_w hb.w h
end Go.Proofs.Ytbjpkfgkmilkdaa

/- The neighbours of a variable: the plain way of it. -/
namespace Go.Proofs.Ytbjpkfgkmilkdaa
open Go.RowKit

def nbG (v : Int) : List Int → List At → List Int
  | acc, [] => acc
  | acc, a :: al => nbG v (if decide (v ∈ a.2) = true then uniL acc (avars 5 0 a.2) else acc) al
def nearP (v w : Int) (a : At) : Bool := decide (w ≠ v) && decide (v ∈ a.2) && decide (w ∈ a.2)
def nearS (ats : List At) (v w : Int) : Bool := ats.any (nearP v w)
def nbrs (d : Qd) (v : Int) : List Int := if vqB d = true then selF (nearS d.2.1 v) d.1.toNat 0 else []
theorem nbG_step {v : Int} {acc : List Int} {ats : List At} {k : Nat} (h : k < ats.length) : nbG v acc (ats.drop k) = nbG v (if decide (v ∈ ats[k].2) = true then uniL acc (avars 5 0 ats[k].2) else acc) (ats.drop (k + 1)) := by
  rw [List.drop_eq_getElem_cons h, nbG]
theorem nbG_end {v : Int} {acc : List Int} {ats : List At} {k : Nat} (h : ¬ k < ats.length) : nbG v acc (ats.drop k) = acc := by
  rw [List.drop_eq_nil_of_le (by omega), nbG]
theorem mem_nbG {v x : Int} : ∀ {ats : List At} {acc : List Int}, x ∈ nbG v acc ats ↔ x ∈ acc ∨ ∃ a ∈ ats, v ∈ a.2 ∧ x ∈ avars 5 0 a.2
  | [], acc => by simp [nbG]
  | a :: al, acc => by
    rw [nbG, mem_nbG (ats := al)]
    by_cases hv : v ∈ a.2
    · rw [if_pos (by simpa using hv), mem_uniL]
      constructor
      · rintro ((h | h) | ⟨b, hb, h1, h2⟩)
        · exact .inl h
        · exact .inr ⟨a, by simp, hv, h⟩
        · exact .inr ⟨b, by simp [hb], h1, h2⟩
      · rintro (h | ⟨b, hb, h1, h2⟩)
        · exact .inl (.inl h)
        · rcases List.mem_cons.1 hb with e | e
          · subst e; exact .inl (.inr h2)
          · exact .inr ⟨b, e, h1, h2⟩
    · rw [if_neg (by simpa using hv)]
      constructor
      · rintro (h | ⟨b, hb, h1, h2⟩)
        · exact .inl h
        · exact .inr ⟨b, by simp [hb], h1, h2⟩
      · rintro (h | ⟨b, hb, h1, h2⟩)
        · exact .inl h
        · rcases List.mem_cons.1 hb with e | e
          · subst e; exact absurd h1 hv
          · exact .inr ⟨b, e, h1, h2⟩
theorem asc_nbG {v : Int} : ∀ {ats : List At} {acc : List Int}, Asc acc → Asc (nbG v acc ats)
  | [], _, h => h
  | a :: al, acc, h => by
    rw [nbG]
    split
    · exact asc_nbG (asc_uniL h)
    · exact asc_nbG h
theorem vqB_vars {d : Qd} (h : vqB d = true) : 1 ≤ d.1 ∧ d.1 ≤ 5 ∧ ∀ a ∈ d.2.1, ∀ v ∈ a.2, 0 ≤ v ∧ v < d.1 := by
  unfold vqB at h
  simp only [Bool.and_eq_true, List.all_eq_true] at h
  obtain ⟨⟨⟨⟨h1, _⟩, _⟩, h4⟩, _⟩ := h
  have h1 := inB_t h1
  refine ⟨h1.1, h1.2, fun a ha v hv => ?_⟩
  have h5 := h4 a ha
  unfold atomB at h5
  simp only [Bool.and_eq_true, List.all_eq_true] at h5
  have := inB_t (h5.2 v hv)
  omega
theorem nb_eq {d : Qd} {v : Int} (h : vqB d = true) : strike v (nbG v [] d.2.1) = nbrs d v := by
  obtain ⟨h1, h2, h3⟩ := vqB_vars h
  unfold nbrs
  rw [if_pos h]
  refine asc_ext (asc_strike (asc_nbG asc_nil)) (asc_selF _ _) fun x => ?_
  rw [mem_strike, mem_nbG, mem_selF]
  unfold nearS nearP
  simp only [List.any_eq_true, Bool.and_eq_true, decide_eq_true_eq, mem_avars]
  constructor
  · rintro ⟨h4 | ⟨a, ha, h5, h6, h7, h8⟩, h9⟩
    · simp at h4
    · have := h3 a ha x h8
      exact ⟨by omega, by omega, a, ha, ⟨h9, h5⟩, h8⟩
  · rintro ⟨h4, h5, a, ha, ⟨h6, h7⟩, h8⟩
    exact ⟨.inr ⟨a, ha, h7, by omega, by omega, h8⟩, h6⟩
theorem nbrs_length (d : Qd) (v : Int) : (nbrs d v).length ≤ 5 := by
  unfold nbrs
  split
  · rename_i h
    obtain ⟨h1, h2, _⟩ := vqB_vars h
    have := selF_length (p := nearS d.2.1 v) d.1.toNat 0
    omega
  · simp
theorem nbG_length {v : Int} : ∀ {ats : List At} {acc : List Int}, (nbG v acc ats).length ≤ acc.length + 5 * ats.length
  | [], acc => by simp [nbG]
  | a :: al, acc => by
    rw [nbG]
    have h1 := avars_length 5 0 a.2
    have h2 := uniL_length (avars 5 0 a.2) acc
    split
    · have := nbG_length (v := v) (ats := al) (acc := uniL acc (avars 5 0 a.2))
      rw [List.length_cons]; omega
    · have := nbG_length (v := v) (ats := al) (acc := acc)
      rw [List.length_cons]; omega
end Go.Proofs.Ytbjpkfgkmilkdaa

/- Bindings of queries: the rows of an atom, all assignments for which every atom holds; the program's way and the reference's come to the same. No program in it. -/
namespace Go.Proofs.Ytbjpkfgkmilkdaa
open Go.RowKit

theorem map_at' {l : List Int} {h g : Int → Int} (e : l.map h = l.map g) : ∀ v ∈ l, h v = g v := fun v hv => List.map_inj_left.1 e v hv
def relOf (d : Dbd) (a : At) : Rd := (lookD d a.1).getD (0, [])
def atFit (d : Dbd) (a : At) : Bool := match lookD d a.1 with | some r => decide (r.1 = (a.2.length : Int)) | none => false
def iqfB (d : Dbd) (q : Qd) : Bool := vqB q && dbB d && q.2.1.all (atFit d)
/-- repeated variables have the same value -/
def rowFit (vars row : List Int) : Bool := decide (vars.map (valAt vars row) = row)
def atomBd (d : Dbd) (a : At) : Rd :=
  (((avars 5 0 a.2).length : Int), if atFit d a = true ∧ ∀ v ∈ a.2, 0 ≤ v ∧ v ≤ 4 then sortR (((relOf d a).2.filter (rowFit a.2)).map fun row => (avars 5 0 a.2).map (valAt a.2 row)) else [])
def atomVR (d : Dbd) (a : At) : VRd := (avars 5 0 a.2, atomBd d a)
theorem mem_av5 {xs : List Int} {x : Int} (h : ∀ v ∈ xs, 0 ≤ v ∧ v ≤ 4) : x ∈ avars 5 0 xs ↔ x ∈ xs := by
  rw [mem_avars]
  constructor
  · exact fun h => h.2.2
  · intro hx
    have := h x hx
    exact ⟨by omega, by omega, hx⟩
theorem atFit_some {d : Dbd} {a : At} (h : atFit d a = true) : dbB d = true ∧ TOk (a.1, relOf d a) ∧ (relOf d a).1 = (a.2.length : Int) := by
  unfold atFit at h
  cases e : lookD d a.1 with
  | none => rw [e] at h; cases h
  | some r =>
    rw [e] at h
    have h2 := lookD_ok e
    have er : relOf d a = r := by unfold relOf; rw [e]; rfl
    rw [er]
    exact ⟨h2.1, h2.2, by simpa using h⟩
theorem mem_atom {d : Dbd} {a : At} (hf : atFit d a = true) (hv : ∀ v ∈ a.2, 0 ≤ v ∧ v ≤ 4) {t : List Int} : t ∈ (atomBd d a).2 ↔ ∃ g : Int → Int, (avars 5 0 a.2).map g = t ∧ a.2.map g ∈ (relOf d a).2 := by
  unfold atomBd
  simp only
  rw [if_pos ⟨hf, hv⟩, mem_sortR, List.mem_map]
  constructor
  · rintro ⟨row, hr, rfl⟩
    rw [List.mem_filter] at hr
    have h2 : a.2.map (valAt a.2 row) = row := by simpa [rowFit] using hr.2
    exact ⟨valAt a.2 row, rfl, by rw [h2]; exact hr.1⟩
  · rintro ⟨g, rfl, hg⟩
    refine ⟨a.2.map g, List.mem_filter.2 ⟨hg, ?_⟩, List.map_congr_left fun v hm => valAt_map ((mem_av5 hv).1 hm)⟩
    unfold rowFit
    rw [decide_eq_true_eq]
    exact List.map_congr_left fun v hm => valAt_map hm
theorem atomBd_ok {d : Dbd} {a : At} : VrOk (atomVR d a) := by
  have hlo : ∀ v ∈ avars 5 0 a.2, 0 ≤ v ∧ v ≤ 4 := fun v hv => by
    have := (mem_avars 5 0 _ _).1 hv
    omega
  have hasc := asc_avars 5 0 a.2
  unfold atomVR atomBd
  by_cases hc : atFit d a = true ∧ ∀ v ∈ a.2, 0 ≤ v ∧ v ≤ 4
  · rw [if_pos hc]
    obtain ⟨_, hT, hl⟩ := atFit_some hc.1
    have hr := rowsB_iff.1 hT.rel
    have hcnt := hT.cnt
    refine ⟨hasc, hlo, asc_len5 hasc hlo, rfl, ?_, fun r hr => ?_, fun r hrm => ?_, asc_sortR _⟩
    · refine Nat.le_trans (sortR_length _) ?_
      rw [List.length_map]
      refine Nat.le_trans (List.length_filter_le _ _) ?_
      simp only at hcnt ⊢
      omega
    · obtain ⟨row, _, rfl⟩ := List.mem_map.1 (mem_sortR.1 hr)
      simp
    · obtain ⟨row, h2, rfl⟩ := List.mem_map.1 (mem_sortR.1 hrm)
      rw [List.mem_filter] at h2
      have h3 := hr.2.2.2.1 row h2.1
      rw [rowV_iff]
      intro x hx
      obtain ⟨v, hv, rfl⟩ := List.mem_map.1 hx
      refine rowV_iff.1 h3.2 _ (valAt_mem ((mem_av5 hc.2).1 hv) ?_)
      have := h3.1
      simp only at this
      omega
  · rw [if_neg hc]
    exact ⟨hasc, hlo, asc_len5 hasc hlo, rfl, by simp, by simp, by simp, ascR_nil⟩
theorem atomBd_cnt {d : Dbd} {a : At} : (atomBd d a).2.length ≤ 16 := by
  unfold atomBd
  simp only
  split
  · rename_i hc
    obtain ⟨_, hT, _⟩ := atFit_some hc.1
    refine Nat.le_trans (sortR_length _) ?_
    rw [List.length_map]
    exact Nat.le_trans (List.length_filter_le _ _) hT.cnt
  · simp

/-! ### all bindings -/
/-- one atom's row laid over a row not yet whole -/
def fitX : List Int → List Int → List Int → Option (List Int)
  | x, v :: vs, y :: ys => if x.getD v.toNat 0 = -1 ∨ x.getD v.toNat 0 = y then fitX (x.set v.toNat y) vs ys else none
  | x, _, _ => some x
def walkL (d : Dbd) : List At → List Int → List (List Int)
  | [], row => [row]
  | a :: ats, row => (relOf d a).2.flatMap fun r => match fitX row a.2 r with | some x => walkL d ats x | none => []
def allB (d : Dbd) (q : Qd) : List (List Int) := sortR (walkL d q.2.1 (List.replicate q.1.toNat (-1)))
def bindR (d : Dbd) (q : Qd) : Option Rd := if iqfB d q = true ∧ (allB d q).length ≤ 4000 then some (q.1, allB d q) else none
/-- the program's way -/
def stepB (d : Dbd) (s : List Int × List (List Int)) (a : At) : List Int × List (List Int) := (uniL s.1 (avars 5 0 a.2), joinL (uniL s.1 (avars 5 0 a.2)) s.1 s.2 (avars 5 0 a.2) (atomBd d a).2)
def foldB (d : Dbd) (ats : List At) : List Int × List (List Int) := ats.foldl (stepB d) ([], [[]])

theorem getD_set_self {x : List Int} {i : Nat} {y : Int} (h : i < x.length) : (x.set i y).getD i 0 = y := by
  rw [getDl _ _ (by simpa using h)]; simp
theorem getD_set_ne {x : List Int} {i j : Nat} {y : Int} (h : i ≠ j) : (x.set i y).getD j 0 = x.getD j 0 := by
  simp only [List.getD_eq_getElem?_getD, List.getElem?_set, if_neg h]
/-- z is x, filled in further -/
def Over (x z : List Int) : Prop := z.length = x.length ∧ ∀ i, i < x.length → x.getD i 0 ≠ -1 → z.getD i 0 = x.getD i 0
theorem fitX_iff : ∀ {vs ys : List Int} {x z : List Int}, vs.length = ys.length → (∀ v ∈ vs, 0 ≤ v ∧ v < x.length) → (∀ y ∈ ys, y ≠ -1) →
    (fitX x vs ys = some z ↔ Over x z ∧ pickL z vs = ys ∧ ∀ i, i < x.length → x.getD i 0 = -1 → (i : Int) ∉ vs → z.getD i 0 = -1)
  | [], [], x, z, _, _, _ => by
    simp only [fitX, Option.some.injEq]
    constructor
    · rintro rfl
      exact ⟨⟨rfl, fun _ _ _ => rfl⟩, rfl, fun _ _ h _ => h⟩
    · rintro ⟨⟨h1, h2⟩, _, h3⟩
      apply List.ext_getElem h1.symm
      intro i h4 h5
      have e1 : x[i] = x.getD i 0 := (getDl _ _ h4).symm
      have e2 : z[i] = z.getD i 0 := (getDl _ _ h5).symm
      rw [e1, e2]
      by_cases h6 : x.getD i 0 = -1
      · rw [h6, h3 i h4 h6 (by simp)]
      · exact (h2 i h4 h6).symm
  | [], _ :: _, _, _, h, _, _ => by simp at h
  | _ :: _, [], _, _, h, _, _ => by simp at h
  | v :: vs, y :: ys, x, z, hl, hv, hy => by
    have hv0 := hv v (by simp)
    have hy0 := hy y (by simp)
    obtain ⟨n, rfl⟩ := Int.eq_ofNat_of_zero_le hv0.1
    have hn : n < x.length := by omega
    rw [fitX, Int.toNat_natCast]
    by_cases hc : x.getD n 0 = -1 ∨ x.getD n 0 = y
    · rw [if_pos hc, fitX_iff (x := x.set n y) (by simpa using hl) (by simpa using fun u hu => hv u (by simp [hu])) (fun u hu => hy u (by simp [hu]))]
      constructor
      · rintro ⟨⟨h1, h2⟩, h3, h4⟩
        rw [List.length_set] at h1 h2 h4
        have hz : z.getD n 0 = y := by
          rw [h2 n hn (by rw [getD_set_self hn]; exact hy0), getD_set_self hn]
        refine ⟨⟨h1, fun i hi hx => ?_⟩, ?_, fun i hi hx hm => ?_⟩
        · by_cases e : n = i
          · subst e
            rcases hc with hc | hc
            · exact absurd hc hx
            · rw [hz, hc]
          · have := h2 i hi (by rw [getD_set_ne e]; exact hx)
            rwa [getD_set_ne e] at this
        · unfold pickL at h3 ⊢
          rw [List.map_cons, h3, Int.toNat_natCast, hz]
        · rw [List.mem_cons, not_or] at hm
          have e : n ≠ i := fun e => hm.1 (by rw [e])
          exact h4 i hi (by rw [getD_set_ne e]; exact hx) hm.2
      · rintro ⟨⟨h1, h2⟩, h3, h4⟩
        unfold pickL at h3
        rw [List.map_cons, List.cons.injEq, Int.toNat_natCast] at h3
        refine ⟨⟨by rw [List.length_set]; exact h1, fun i hi hx => ?_⟩, h3.2, fun i hi hx hm => ?_⟩
        · rw [List.length_set] at hi
          by_cases e : n = i
          · subst e
            rw [getD_set_self hn]; exact h3.1
          · rw [getD_set_ne e] at hx ⊢
            exact h2 i hi hx
        · rw [List.length_set] at hi
          by_cases e : n = i
          · subst e
            rw [getD_set_self hn] at hx
            exact absurd hx hy0
          · rw [getD_set_ne e] at hx
            exact h4 i hi hx (by rw [List.mem_cons, not_or]; exact ⟨fun k => e (by omega), hm⟩)
    · rw [if_neg hc]
      constructor
      · intro h; cases h
      · rintro ⟨⟨h1, h2⟩, h3, h4⟩
        exfalso
        unfold pickL at h3
        rw [List.map_cons, List.cons.injEq, Int.toNat_natCast] at h3
        rw [not_or] at hc
        exact hc.2 (by rw [← h2 n hn hc.1, h3.1])
/-- every atom holds -/
def Holds (d : Dbd) (ats : List At) (z : List Int) : Prop := ∀ a ∈ ats, pickL z a.2 ∈ (relOf d a).2
theorem walkL_iff {d : Dbd} : ∀ {ats : List At} {x z : List Int}, (∀ a ∈ ats, atFit d a = true ∧ ∀ v ∈ a.2, 0 ≤ v ∧ v < x.length) →
    (z ∈ walkL d ats x ↔ Over x z ∧ Holds d ats z ∧ ∀ i, i < x.length → x.getD i 0 = -1 → (∀ a ∈ ats, (i : Int) ∉ a.2) → z.getD i 0 = -1)
  | [], x, z, _ => by
    rw [walkL, List.mem_singleton]
    have := fitX_iff (vs := []) (ys := []) (x := x) (z := z) rfl (by simp) (by simp)
    simp only [fitX, Option.some.injEq] at this
    rw [eq_comm, this]
    simp [Holds, pickL]
  | a :: ats, x, z, h => by
    obtain ⟨hf, hv⟩ := h a (by simp)
    obtain ⟨_, hT, hl⟩ := atFit_some hf
    have hr := (rowsB_iff.1 hT.rel).2.2.2.1
    simp only at hr
    rw [walkL, List.mem_flatMap]
    constructor
    · rintro ⟨r, hrm, hz⟩
      have h1 := hr r hrm
      have hfx := fun x' => fitX_iff (vs := a.2) (ys := r) (x := x) (z := x') (by omega) hv (fun y hy => by have := (rowV_iff.1 h1.2 y hy).1; omega)
      cases e : fitX x a.2 r with
      | none => rw [e] at hz; simp at hz
      | some x' =>
        rw [e] at hz
        obtain ⟨⟨o1, o2⟩, p1, u1⟩ := (hfx x').1 e
        have ih := (walkL_iff (d := d) (ats := ats) (x := x') (z := z) (fun b hb => by rw [o1]; exact h b (by simp [hb]))).1 hz
        obtain ⟨⟨q1, q2⟩, q3, q4⟩ := ih
        have hzx : ∀ i, i < x.length → x'.getD i 0 ≠ -1 → z.getD i 0 = x'.getD i 0 := fun i hi h => q2 i (by omega) h
        refine ⟨⟨by omega, fun i hi hx => ?_⟩, fun b hb => ?_, fun i hi hx hm => ?_⟩
        · rw [hzx i hi (by rw [o2 i hi hx]; exact hx), o2 i hi hx]
        · rcases List.mem_cons.1 hb with e | e
          · subst e
            have : pickL z b.2 = pickL x' b.2 := by
              unfold pickL
              refine List.map_congr_left fun v hvm => ?_
              have hb2 := hv v hvm
              refine hzx v.toNat (by omega) ?_
              have hp : x'.getD v.toNat 0 ∈ pickL x' b.2 := List.mem_map.2 ⟨v, hvm, rfl⟩
              rw [p1] at hp
              have := (rowV_iff.1 h1.2 _ hp).1
              omega
            rw [this, p1]
            exact hrm
          · exact q3 b e
        · refine q4 i (by omega) (u1 i hi hx (hm a (by simp))) fun b hb => hm b (by simp [hb])
    · rintro ⟨⟨o1, o2⟩, hH, u1⟩
      refine ⟨pickL z a.2, hH a (by simp), ?_⟩
      have h1 := hr _ (hH a (by simp))
      -- what is laid over x so far
      obtain ⟨x', hx'⟩ : ∃ x' : List Int, x' = (List.range x.length).map fun (i : Nat) => if (i : Int) ∈ a.2 then z.getD i 0 else x.getD i 0 := ⟨_, rfl⟩
      have hlx : x'.length = x.length := by rw [hx']; simp
      have hgx : ∀ i, i < x.length → x'.getD i 0 = if (i : Int) ∈ a.2 then z.getD i 0 else x.getD i 0 := fun i hi => by
        rw [hx', getDl _ _ (by simpa using hi)]; simp
      have e : fitX x a.2 (pickL z a.2) = some x' := by
        rw [fitX_iff (by simp [pickL]) hv (fun y hy => by have := (rowV_iff.1 h1.2 y hy).1; omega)]
        refine ⟨⟨hlx, fun i hi hx => ?_⟩, ?_, fun i hi hx hm => ?_⟩
        · rw [hgx i hi]; split
          · exact o2 i hi hx
          · rfl
        · unfold pickL
          refine List.map_congr_left fun v hvm => ?_
          have hb := hv v hvm
          rw [hgx _ (by omega), if_pos (by rw [Int.toNat_of_nonneg hb.1]; exact hvm)]
        · rw [hgx i hi, if_neg hm]; exact hx
      rw [e]
      rw [walkL_iff (fun b hb => by rw [hlx]; exact h b (by simp [hb]))]
      refine ⟨⟨by omega, fun i hi hx => ?_⟩, fun b hb => hH b (by simp [hb]), fun i hi hx hm => ?_⟩
      · rw [hlx] at hi
        rw [hgx i hi] at hx ⊢
        split
        · rfl
        · rename_i k
          rw [if_neg k] at hx
          exact o2 i hi hx
      · rw [hlx] at hi
        by_cases k : (i : Int) ∈ a.2
        · rw [hgx i hi, if_pos k] at hx; exact hx
        · rw [hgx i hi, if_neg k] at hx
          exact u1 i hi hx fun b hb => by
            rcases List.mem_cons.1 hb with e | e
            · subst e; exact k
            · exact hm b e

/-- what is known of a query that fits a database -/
structure QOk (d : Dbd) (q : Qd) : Prop where
  n1 : 1 ≤ q.1
  n5 : q.1 ≤ 5
  db : dbB d = true
  at1 : 1 ≤ q.2.1.length
  at4 : q.2.1.length ≤ 4
  fit : ∀ a ∈ q.2.1, atFit d a = true
  vars : ∀ a ∈ q.2.1, ∀ v ∈ a.2, 0 ≤ v ∧ v < q.1
  cov : ∀ v : Int, 0 ≤ v → v < q.1 → ∃ a ∈ q.2.1, v ∈ a.2
  out : ∀ v ∈ q.2.2, 0 ≤ v ∧ v < q.1
theorem mem_allB {d : Dbd} {q : Qd} (h : QOk d q) {z : List Int} : z ∈ allB d q ↔ (z.length : Int) = q.1 ∧ Holds d q.2.1 z := by
  have h1 := h.n1
  unfold allB
  rw [mem_sortR, walkL_iff (fun a ha => ⟨h.fit a ha, fun v hv => by have := h.vars a ha v hv; simp; omega⟩)]
  simp only [List.length_replicate]
  constructor
  · rintro ⟨⟨o1, _⟩, h2, _⟩
    rw [List.length_replicate] at o1
    exact ⟨by omega, h2⟩
  · rintro ⟨h2, h3⟩
    refine ⟨⟨by rw [List.length_replicate]; omega, fun i hi hx => ?_⟩, h3, fun i hi _ hm => ?_⟩
    · rw [List.length_replicate] at hi
      rw [getDl _ _ (by simpa using hi), List.getElem_replicate] at hx
      exact absurd rfl hx
    · obtain ⟨a, ha, hv⟩ := h.cov (i : Int) (by omega) (by omega)
      exact absurd hv (hm a ha)
def idV (n : Int) : List Int := (List.range n.toNat).map fun (i : Nat) => (i : Int)
theorem mem_idV {n v : Int} : v ∈ idV n ↔ 0 ≤ v ∧ v < n := by
  unfold idV
  rw [List.mem_map]
  constructor
  · rintro ⟨i, hi, rfl⟩
    have := List.mem_range.1 hi
    omega
  · rintro ⟨h1, h2⟩
    exact ⟨v.toNat, List.mem_range.2 (by omega), by omega⟩
theorem asc_idV (n : Int) : Asc (idV n) := List.pairwise_map.2 (List.Pairwise.imp (fun {a b} h => by omega) List.pairwise_lt_range)
theorem idV_get {n : Int} {g : Int → Int} {v : Int} (h : 0 ≤ v ∧ v < n) : ((idV n).map g).getD v.toNat 0 = g v := by
  unfold idV
  rw [List.map_map, getDl _ _ (by simp; omega)]
  simp [Int.toNat_of_nonneg h.1]
theorem pick_idV {n : Int} {g : Int → Int} {l : List Int} (h : ∀ v ∈ l, 0 ≤ v ∧ v < n) : pickL ((idV n).map g) l = l.map g := List.map_congr_left fun v hv => idV_get (h v hv)
theorem holds_map {d : Dbd} {q : Qd} (h : QOk d q) {g : Int → Int} : Holds d q.2.1 ((idV q.1).map g) ↔ ∀ a ∈ q.2.1, a.2.map g ∈ (relOf d a).2 := by
  unfold Holds
  constructor
  · intro hh a ha
    have := hh a ha
    rwa [pick_idV (h.vars a ha)] at this
  · intro hh a ha
    rw [pick_idV (h.vars a ha)]
    exact hh a ha
theorem row_map {n : Int} {z : List Int} (h : (z.length : Int) = n) : (idV n).map (fun v => z.getD v.toNat 0) = z := by
  subst h
  apply List.ext_getElem
  · simp [idV]
  · intro i h1 h2
    simp only [idV, List.map_map, List.getElem_map, List.getElem_range, Function.comp, Int.toNat_natCast]
    exact getDl _ _ h2
theorem allB_g {d : Dbd} {q : Qd} (h : QOk d q) {z : List Int} : z ∈ allB d q ↔ ∃ g : Int → Int, (idV q.1).map g = z ∧ ∀ a ∈ q.2.1, a.2.map g ∈ (relOf d a).2 := by
  rw [mem_allB h]
  constructor
  · rintro ⟨h1, h2⟩
    refine ⟨_, row_map h1, ?_⟩
    rw [← holds_map h, row_map h1]
    exact h2
  · rintro ⟨g, rfl, hg⟩
    have := h.n1
    exact ⟨by simp [idV]; omega, (holds_map h).2 hg⟩
theorem snoc_ind {α : Type} {P : List α → Prop} (h0 : P []) (h1 : ∀ l a, P l → P (l ++ [a])) (l : List α) : P l := by
  rw [← List.reverse_reverse l]
  induction l.reverse with
  | nil => exact h0
  | cons a l ih => rw [List.reverse_cons]; exact h1 _ _ ih
/-- the program's fold -/
theorem foldB_iff {d : Dbd} : ∀ {ats : List At}, (∀ a ∈ ats, atFit d a = true ∧ ∀ v ∈ a.2, 0 ≤ v ∧ v ≤ 4) →
    Asc (foldB d ats).1 ∧ (∀ v, v ∈ (foldB d ats).1 ↔ ∃ a ∈ ats, v ∈ a.2) ∧ ∀ t, t ∈ (foldB d ats).2 ↔ ∃ g : Int → Int, (foldB d ats).1.map g = t ∧ ∀ a ∈ ats, a.2.map g ∈ (relOf d a).2 := by
  intro ats
  induction ats using snoc_ind with
  | h0 =>
    intro _
    refine ⟨asc_nil, by simp [foldB], fun t => ?_⟩
    simp [foldB, eq_comm]
  | h1 ats a ih =>
    intro h
    obtain ⟨i1, i2, i3⟩ := ih fun b hb => h b (by simp [hb])
    obtain ⟨hf, hv⟩ := h a (by simp)
    have e : foldB d (ats ++ [a]) = stepB d (foldB d ats) a := by simp [foldB]
    obtain ⟨s, hs⟩ : ∃ s, foldB d ats = s := ⟨_, rfl⟩
    rw [hs] at i1 i2 i3 e
    rw [e]
    have hok := atomBd_ok (d := d) (a := a)
    have hm : ∀ v, v ∈ uniL s.1 (avars 5 0 a.2) ↔ ∃ b ∈ ats ++ [a], v ∈ b.2 := fun v => by
      rw [mem_uniL, i2, mem_av5 hv]
      simp only [List.mem_append, List.mem_singleton]
      constructor
      · rintro (⟨b, hb, k⟩ | k)
        · exact ⟨b, .inl hb, k⟩
        · exact ⟨a, .inr rfl, k⟩
      · rintro ⟨b, hb | rfl, k⟩
        · exact .inl ⟨b, hb, k⟩
        · exact .inr k
    refine ⟨asc_uniL i1, hm, fun t => ?_⟩
    unfold stepB
    simp only
    rw [mem_joinL (va := s.1) (ra := s.2) (vb := avars 5 0 a.2) (rb := (atomBd d a).2) (asc_nodup i1) (asc_nodup hok.asc) (fun r hr => by obtain ⟨g, rfl, _⟩ := (i3 r).1 hr; simp) (fun r hr => hok.rl r hr) (fun v hv => mem_uniL.1 hv)]
    constructor
    · rintro ⟨g, rfl, h1, h2⟩
      refine ⟨g, rfl, fun b hb => ?_⟩
      rcases List.mem_append.1 hb with hb | hb
      · obtain ⟨g', e', h3⟩ := (i3 _).1 h1
        have := map_at' e'
        rw [List.map_congr_left (g := g') fun v hvm => (this v ((i2 v).2 ⟨b, hb, hvm⟩)).symm]
        exact h3 b hb
      · obtain rfl := List.mem_singleton.1 hb
        obtain ⟨g', e', h3⟩ := (mem_atom hf hv).1 h2
        have := map_at' e'
        rw [List.map_congr_left (g := g') fun v hvm => (this v ((mem_av5 hv).2 hvm)).symm]
        exact h3
    · rintro ⟨g, rfl, hg⟩
      exact ⟨g, rfl, (i3 _).2 ⟨g, rfl, fun b hb => hg b (by simp [hb])⟩, (mem_atom hf hv).2 ⟨g, rfl, hg a (by simp)⟩⟩
theorem foldB_all {d : Dbd} {q : Qd} (h : QOk d q) : (foldB d q.2.1).1 = idV q.1 ∧ sortR (foldB d q.2.1).2 = allB d q := by
  have h5 := h.n5
  obtain ⟨h1, h2, h3⟩ := foldB_iff (d := d) (ats := q.2.1) fun a ha => ⟨h.fit a ha, fun v hv => by have := h.vars a ha v hv; omega⟩
  have e : (foldB d q.2.1).1 = idV q.1 := asc_ext h1 (asc_idV _) fun v => by
    rw [h2, mem_idV]
    constructor
    · rintro ⟨a, ha, hv⟩; exact h.vars a ha v hv
    · rintro ⟨k1, k2⟩; exact h.cov v k1 k2
  refine ⟨e, ?_⟩
  refine ascR_ext (asc_sortR _) (asc_sortR _) fun t => ?_
  rw [mem_sortR, h3, e]
  exact (allB_g h).symm
end Go.Proofs.Ytbjpkfgkmilkdaa

/- Small relations have few bindings. No program in it. -/
namespace Go.Proofs.Ytbjpkfgkmilkdaa
open Go.RowKit
/-- all lists whose k-th number is one of the k-th row's -/
def prodL : List (List Int) → List (List Int)
  | [] => [[]]
  | vs :: L => vs.flatMap fun v => (prodL L).map (v :: ·)
theorem flat_len {α β : Type} {f : α → List β} {n : Nat} : ∀ {l : List α}, (∀ x ∈ l, (f x).length = n) → (l.flatMap f).length = l.length * n
  | [], _ => by simp
  | x :: l, h => by
    rw [List.flatMap_cons, List.length_append, h x (by simp), flat_len (l := l) fun y hy => h y (by simp [hy]), List.length_cons, Nat.succ_mul]
    omega
theorem prodL_len : ∀ (L : List (List Int)), (prodL L).length = (L.map List.length).foldr (· * ·) 1
  | [] => rfl
  | vs :: L => by
    rw [prodL, flat_len (n := (prodL L).length) (fun v _ => by simp), prodL_len L]
    rfl
theorem mem_prodL : ∀ {L : List (List Int)} {z : List Int}, z.length = L.length → (∀ i, i < z.length → z.getD i 0 ∈ L.getD i []) → z ∈ prodL L
  | [], z, h, _ => by simp [prodL, List.eq_nil_of_length_eq_zero h]
  | vs :: L, [], h, _ => by simp at h
  | vs :: L, x :: z, h, hm => by
    rw [prodL, List.mem_flatMap]
    refine ⟨x, by simpa using hm 0 (by simp), List.mem_map.2 ⟨z, mem_prodL (by simpa using h) fun i hi => by simpa using hm (i + 1) (by simpa using hi), rfl⟩⟩
theorem sub_len {α : Type} [DecidableEq α] : ∀ {l A : List α}, l.Nodup → (∀ x ∈ l, x ∈ A) → l.length ≤ A.length
  | [], _, _, _ => by simp
  | x :: l, A, h, hs => by
    rw [List.nodup_cons] at h
    have hx := hs x (by simp)
    have := sub_len (l := l) (A := A.erase x) h.2 fun y hy => (List.mem_erase_of_ne (fun (e : y = x) => h.1 (e ▸ hy))).2 (hs y (by simp [hy]))
    rw [List.length_erase_of_mem hx] at this
    have := List.length_pos_of_mem hx
    simp only [List.length_cons]
    omega
/-- a small relation: nine rows, few values -/
def FewR (r : Rd) : Prop := r.2.length ≤ 9 ∧ ((∀ row ∈ r.2, ∀ v ∈ row, 0 ≤ v ∧ v < 6) ∨ r.2.length ≤ 7)
def colV (r : Rd) (c : Nat) : List Int := if r.2.length ≤ 7 then r.2.map (fun row => row.getD c 0) else [0, 1, 2, 3, 4, 5]
theorem FewR.col {r : Rd} (h : FewR r) (c : Nat) : (colV r c).length ≤ 7 ∧ ∀ row ∈ r.2, c < row.length → row.getD c 0 ∈ colV r c := by
  unfold colV
  split
  · rename_i hl
    exact ⟨by simpa using hl, fun row hr _ => List.mem_map.2 ⟨row, hr, rfl⟩⟩
  · rename_i hl
    refine ⟨by simp, fun row hr hc => ?_⟩
    rcases h.2 with k | k
    · have := k row hr (row.getD c 0) (by rw [getDl _ _ hc]; exact List.getElem_mem _)
      obtain ⟨x, hx⟩ : ∃ x, row.getD c 0 = x := ⟨_, rfl⟩
      rw [hx] at this ⊢
      have : x = 0 ∨ x = 1 ∨ x = 2 ∨ x = 3 ∨ x = 4 ∨ x = 5 := by omega
      simp only [List.mem_cons, List.not_mem_nil, or_false]
      exact this
    · exact absurd k hl
def FewD (d : Dbd) : Prop := ∀ t ∈ d, FewR t.2
theorem atFit_look1 {d : Dbd} {a : At} (h : atFit d a = true) : lookD d a.1 = some (relOf d a) := by
  unfold atFit at h
  unfold relOf
  cases e : lookD d a.1 with
  | none => rw [e] at h; cases h
  | some r => rfl
theorem FewD.rel {d : Dbd} (h : FewD d) {a : At} (hf : atFit d a = true) : FewR (relOf d a) := by
  have e := atFit_look1 hf
  unfold lookD at e
  split at e
  · exact h _ (fndD_mem e)
  · cases e
/-- a query whose bindings are few: four variables, or a pair of atoms that tell four of five -/
def FewQ (q : Qd) : Prop := q.1 ≤ 4 ∨ ∃ a ∈ q.2.1, ∃ b ∈ q.2.1, a.2 = [0, 1] ∧ b.2 = [2, 3]
theorem hold_at {d : Dbd} {q : Qd} (h : QOk d q) {z : List Int} (hz : z ∈ allB d q) {a : At} (ha : a ∈ q.2.1) : pickL z a.2 ∈ (relOf d a).2 := ((mem_allB h).1 hz).2 a ha
theorem mem_ix {l : List Int} {v : Int} (h : v ∈ l) : ∃ c, c < l.length ∧ l.getD c 0 = v := by
  obtain ⟨c, hc, rfl⟩ := List.getElem_of_mem h
  exact ⟨c, hc, getDl _ _ hc⟩
theorem var_vals {d : Dbd} {q : Qd} (h : QOk d q) (hd : FewD d) {v : Int} (h0 : 0 ≤ v) (h1 : v < q.1) : ∃ L : List Int, L.length ≤ 7 ∧ ∀ z ∈ allB d q, z.getD v.toNat 0 ∈ L := by
  obtain ⟨a, ha, hv⟩ := h.cov v h0 h1
  obtain ⟨c, hc, e⟩ := mem_ix hv
  obtain ⟨k1, k2⟩ := (hd.rel (h.fit a ha)).col c
  refine ⟨_, k1, fun z hz => ?_⟩
  have := k2 _ (hold_at h hz ha) (by rw [pickL_length]; exact hc)
  have e2 : (pickL z a.2).getD c 0 = z.getD v.toNat 0 := by
    rw [getDl _ _ (by rw [pickL_length]; exact hc)]
    unfold pickL
    rw [List.getElem_map, ← getDl _ 0 hc, e]
  rwa [e2] at this
theorem allB_nodup {d : Dbd} {q : Qd} : (allB d q).Nodup := ascR_nodup (asc_sortR _)
theorem few_bindings {d : Dbd} {q : Qd} (h : QOk d q) (hd : FewD d) (hq : FewQ q) : (allB d q).length ≤ 4000 := by
  have hn1 := h.n1
  have hn5 := h.n5
  have hvals : ∀ v : Nat, (v : Int) < q.1 → ∃ L : List Int, L.length ≤ 7 ∧ ∀ z ∈ allB d q, z.getD v 0 ∈ L := fun v hv => by
    have := var_vals h hd (v := v) (by omega) hv
    simpa using this
  have hlen : ∀ z ∈ allB d q, (z.length : Int) = q.1 := fun z hz => ((mem_allB h).1 hz).1
  have hgo : ∀ A : List (List Int), (∀ z ∈ allB d q, z ∈ A) → A.length ≤ 4000 → (allB d q).length ≤ 4000 := fun A h1 h2 => Nat.le_trans (sub_len allB_nodup h1) h2
  have m7 : ∀ {a b c e : Nat}, a ≤ 7 → b ≤ 7 → c ≤ 7 → e ≤ 7 → a * (b * (c * (e * 1))) ≤ 4000 := fun {a b c e} h1 h2 h3 h4 => Nat.le_trans (Nat.mul_le_mul h1 (Nat.mul_le_mul h2 (Nat.mul_le_mul h3 (Nat.mul_le_mul h4 (Nat.le_refl 1))))) (by decide)
  have small : q.1 ≤ 4 → (allB d q).length ≤ 4000 := fun h4 => by
    have hn : q.1 = 1 ∨ q.1 = 2 ∨ q.1 = 3 ∨ q.1 = 4 := by omega
    rcases hn with hn | hn | hn | hn
    · obtain ⟨L0, l0, m0⟩ := hvals 0 (by omega)
      refine hgo (prodL [L0]) (fun z hz => mem_prodL (by have := hlen z hz; simp; omega) fun i hi => ?_) (by rw [prodL_len]; have := m7 l0 (show 1 ≤ 7 by omega) (show 1 ≤ 7 by omega) (show 1 ≤ 7 by omega); simpa using this)
      have := hlen z hz
      have hi : i = 0 := by omega
      subst hi; exact m0 z hz
    · obtain ⟨L0, l0, m0⟩ := hvals 0 (by omega)
      obtain ⟨L1, l1, m1⟩ := hvals 1 (by omega)
      refine hgo (prodL [L0, L1]) (fun z hz => mem_prodL (by have := hlen z hz; simp; omega) fun i hi => ?_) (by rw [prodL_len]; have := m7 l0 l1 (show 1 ≤ 7 by omega) (show 1 ≤ 7 by omega); simpa using this)
      have := hlen z hz
      have hi : i = 0 ∨ i = 1 := by omega
      rcases hi with rfl | rfl
      · exact m0 z hz
      · exact m1 z hz
    · obtain ⟨L0, l0, m0⟩ := hvals 0 (by omega)
      obtain ⟨L1, l1, m1⟩ := hvals 1 (by omega)
      obtain ⟨L2, l2, m2⟩ := hvals 2 (by omega)
      refine hgo (prodL [L0, L1, L2]) (fun z hz => mem_prodL (by have := hlen z hz; simp; omega) fun i hi => ?_) (by rw [prodL_len]; have := m7 l0 l1 l2 (show 1 ≤ 7 by omega); simpa using this)
      have := hlen z hz
      have hi : i = 0 ∨ i = 1 ∨ i = 2 := by omega
      rcases hi with rfl | rfl | rfl
      · exact m0 z hz
      · exact m1 z hz
      · exact m2 z hz
    · obtain ⟨L0, l0, m0⟩ := hvals 0 (by omega)
      obtain ⟨L1, l1, m1⟩ := hvals 1 (by omega)
      obtain ⟨L2, l2, m2⟩ := hvals 2 (by omega)
      obtain ⟨L3, l3, m3⟩ := hvals 3 (by omega)
      refine hgo (prodL [L0, L1, L2, L3]) (fun z hz => mem_prodL (by have := hlen z hz; simp; omega) fun i hi => ?_) (by rw [prodL_len]; have := m7 l0 l1 l2 l3; simpa using this)
      have := hlen z hz
      have hi : i = 0 ∨ i = 1 ∨ i = 2 ∨ i = 3 := by omega
      rcases hi with rfl | rfl | rfl | rfl
      · exact m0 z hz
      · exact m1 z hz
      · exact m2 z hz
      · exact m3 z hz
  by_cases h4 : q.1 ≤ 4
  · exact small h4
  · rcases hq with h4' | ⟨a, ha, b, hb, ea, eb⟩
    · exact absurd h4' h4
    · obtain ⟨L4, l4, m4⟩ := hvals 4 (by omega)
      have fa := (hd.rel (h.fit a ha)).1
      have fb := (hd.rel (h.fit b hb)).1
      refine hgo ((relOf d a).2.flatMap fun r => (relOf d b).2.flatMap fun s => L4.map fun v => r ++ s ++ [v]) (fun z hz => ?_) ?_
      · rw [List.mem_flatMap]
        refine ⟨_, hold_at h hz ha, List.mem_flatMap.2 ⟨_, hold_at h hz hb, List.mem_map.2 ⟨_, m4 z hz, ?_⟩⟩⟩
        have hl := hlen z hz
        rw [ea, eb]
        match z, hl with
        | [x0, x1, x2, x3, x4], _ => rfl
        | [], hl => simp at hl; omega
        | [_], hl => simp at hl; omega
        | [_, _], hl => simp at hl; omega
        | [_, _, _], hl => simp at hl; omega
        | [_, _, _, _], hl => simp at hl; omega
        | _ :: _ :: _ :: _ :: _ :: _ :: _, hl => simp at hl; omega
      · rw [flat_len (n := (relOf d b).2.length * L4.length) (fun r _ => flat_len fun s _ => by simp)]
        exact Nat.le_trans (Nat.mul_le_mul fa (Nat.mul_le_mul fb l4)) (by decide)
end Go.Proofs.Ytbjpkfgkmilkdaa

/- Texts joined by a byte and divided at it: the one undoes the other. Plain. -/
namespace Go.Proofs.Ytbjpkfgkmilkdaa
open Go.RowKit

theorem bl_app (a b : ByteArray) : bl (a ++ b) = bl a ++ bl b := by simp [bl]
def jl (c : UInt8) : List (List UInt8) → List UInt8
  | [] => []
  | [p] => p
  | p :: q :: ps => p ++ c :: jl c (q :: ps)
theorem spl_jl {c : UInt8} : ∀ {ps : List (List UInt8)}, ps ≠ [] → (∀ p ∈ ps, ∀ x ∈ p, x ≠ c) → spl c (jl c ps) = ps
  | [], h, _ => absurd rfl h
  | [p], _, h => by rw [jl]; exact spl_none (h p (by simp))
  | p :: q :: ps, _, h => by
    rw [jl, spl_two (h p (by simp)), spl_jl (ps := q :: ps) (by simp) (fun r hr => h r (List.mem_cons_of_mem _ hr))]
theorem jl_jh {c : UInt8} {p : List UInt8} : ∀ {L : List (List UInt8)}, L ≠ [] → jl c (jh p L) = p ++ jl c L
  | [], h => absurd rfl h
  | [q], _ => by simp [jh, jl]
  | q :: r :: L, _ => by simp [jh, jl]
theorem jl_spl {c : UInt8} : ∀ l : List UInt8, jl c (spl c l) = l
  | [] => by simp [spl, jl]
  | x :: l => by
    by_cases h : x = c
    · subst h
      rw [spl_sep]
      obtain ⟨q, L, e⟩ := List.exists_cons_of_ne_nil (spl_ne x l)
      rw [e, jl, ← e, jl_spl l]
      rfl
    · rw [spl_other h, jl_jh (spl_ne c l), jl_spl l]
      rfl
theorem joinF_pos {c : UInt8} : ∀ (ps : List ByteArray) (k : Nat) (acc : ByteArray), 0 < k → bl (joinF ⟨#[c]⟩ k acc ps) = bl acc ++ (ps.map fun p => c :: bl p).flatten
  | [], k, acc, _ => by simp [joinF]
  | p :: ps, k, acc, h => by
    rw [joinF, if_pos h, joinF_pos ps (k + 1) _ (by omega), bl_app, bl_app]
    simp
    rfl
theorem jl_flat {c : UInt8} (p : List UInt8) : ∀ ps : List (List UInt8), jl c (p :: ps) = p ++ (ps.map fun p => c :: p).flatten
  | [] => by simp [jl]
  | q :: ps => by rw [jl, jl_flat q ps]; simp
theorem joinF_jl {c : UInt8} (ps : List ByteArray) : bl (joinF ⟨#[c]⟩ 0 ⟨#[]⟩ ps) = jl c (ps.map bl) := by
  cases ps with
  | nil => rfl
  | cons p ps =>
    rw [joinF, if_neg (by omega), joinF_pos ps 1 _ (by omega), bl_app, List.map_cons, jl_flat, List.map_map]
    rfl
theorem splB_joinF {c : UInt8} {ps : List ByteArray} (h : ps ≠ []) (hc : ∀ p ∈ ps, ∀ x ∈ bl p, x ≠ c) : splB c (joinF ⟨#[c]⟩ 0 ⟨#[]⟩ ps) = ps := by
  unfold splB
  rw [joinF_jl, spl_jl (by simpa using h)]
  · rw [List.map_map]
    conv => rhs; rw [← List.map_id ps]
    rfl
  · intro p hp
    obtain ⟨q, hq, rfl⟩ := List.mem_map.1 hp
    exact hc q hq
theorem joinF_splB (c : UInt8) (s : ByteArray) : joinF ⟨#[c]⟩ 0 ⟨#[]⟩ (splB c s) = s := by
  apply bl_inj
  rw [joinF_jl]
  unfold splB
  rw [List.map_map]
  rw [show (bl ∘ bs) = id from rfl, List.map_id, jl_spl]
end Go.Proofs.Ytbjpkfgkmilkdaa

/- Queries read from text: plain laws; the program's way and the reference's give the same. -/
namespace Go.Proofs.Ytbjpkfgkmilkdaa
open Go.RowKit

/-- the number of a variable's name -/
def vix (b : UInt8) : Option Int := if b = 88 then some 0 else if b = 89 then some 1 else if b = 90 then some 2 else if b = 85 then some 3 else if b = 86 then some 4 else none
def pnG : List Int → List UInt8 → Option (List Int)
  | acc, [] => some acc
  | acc, b :: l => match vix b with
    | none => none
    | some v => pnG (acc ++ [v]) l
def pnB (s : ByteArray) : Bool := decide (2 ≤ s.size) && decide ((bl s).head? = some 40) && decide ((bl s).getLast? = some 41)
def pN (s : ByteArray) : Option (List Int) := if pnB s = true then pnG [] (((bl s).take (s.size - 1)).drop 1) else none
/-- the place of the first byte c -/
def ixc (c : UInt8) : List UInt8 → Nat
  | [] => 0
  | x :: xs => if x = c then 0 else ixc c xs + 1
def mxv (n : Int) (vs : List Int) : Int := vs.foldl (fun m v => max m (v + 1)) n
def pqG : Int → List At → List ByteArray → Option (Int × List At)
  | n, ats, [] => some (n, ats)
  | n, ats, w :: ws => match pN (w.extract (ixc 40 (bl w)) w.size) with
    | none => none
    | some vs => pqG (mxv n vs) (ats ++ [(w.extract 0 (ixc 40 (bl w)), vs)]) ws
def finQ (d : Qd) (s : ByteArray) : Option Qd := if fmtQ d = s ∧ s.size ≠ 0 then some d else none
def pQ (s : ByteArray) : Option Qd := match pN ((splB 61 s).getD 0 ⟨#[]⟩) with
  | none => none
  | some out => if (splB 61 s).length = 2 then (match pqG 0 [] (splB 44 ((splB 61 s).getD 1 ⟨#[]⟩)) with
    | none => none
    | some r => finQ (r.1, r.2, out) s) else none
def lst (l : List UInt8) : List Int := l.filterMap vix
def pqS : Int → List At → List ByteArray → Int × List At
  | n, ats, [] => (n, ats)
  | n, ats, w :: ws => pqS (mxv n (lst (bl w))) (ats ++ [((splB 40 w).getD 0 ⟨#[]⟩, lst (bl w))]) ws
def pQs (s : ByteArray) : Option Qd := if (splB 61 s).length = 2 then finQ ((pqS 0 [] (splB 44 ((splB 61 s).getD 1 ⟨#[]⟩))).1, (pqS 0 [] (splB 44 ((splB 61 s).getD 1 ⟨#[]⟩))).2, lst (bl ((splB 61 s).getD 0 ⟨#[]⟩))) s else none

theorem finQ_some {d q : Qd} {s : ByteArray} (h : finQ d s = some q) : d = q ∧ vqB q = true ∧ fmtQ q = s := by
  unfold finQ at h
  split at h
  · rename_i h1
    injection h with h
    subst h
    refine ⟨rfl, ?_, h1.1⟩
    cases hv : vqB d with
    | true => rfl
    | false =>
      refine absurd ?_ h1.2
      rw [← h1.1]
      unfold fmtQ
      rw [hv]
      rfl
  · cases h
theorem finQ_self {d : Qd} (h : vqB d = true) : finQ d (fmtQ d) = some d := by
  have hs : (fmtQ d).size ≠ 0 := by
    unfold fmtQ
    rw [if_pos h, ba_size, ba_size, ba_size, show (ByteArray.mk #[40]).size = 1 from rfl]
    omega
  unfold finQ
  rw [if_pos ⟨rfl, hs⟩]
theorem pQ_some {s : ByteArray} {d : Qd} (h : pQ s = some d) : vqB d = true ∧ fmtQ d = s := by
  unfold pQ at h
  split at h
  · cases h
  · split at h
    · split at h
      · cases h
      · exact (finQ_some h).2
    · cases h
theorem pQs_some {s : ByteArray} {d : Qd} (h : pQs s = some d) : vqB d = true ∧ fmtQ d = s := by
  unfold pQs at h
  split at h
  · exact (finQ_some h).2
  · cases h
/-! the text of a valid query -/
theorem vix_vname {v : Int} (h0 : 0 ≤ v) (h4 : v ≤ 4) : ∃ b, bl (vname v) = [b] ∧ vix b = some v ∧ b ≠ 40 ∧ b ≠ 44 ∧ b ≠ 61 := by
  have h : v = 0 ∨ v = 1 ∨ v = 2 ∨ v = 3 ∨ v = 4 := by omega
  rcases h with rfl | rfl | rfl | rfl | rfl
  · exact ⟨88, by decide, by decide, by decide, by decide, by decide⟩
  · exact ⟨89, by decide, by decide, by decide, by decide, by decide⟩
  · exact ⟨90, by decide, by decide, by decide, by decide, by decide⟩
  · exact ⟨85, by decide, by decide, by decide, by decide, by decide⟩
  · exact ⟨86, by decide, by decide, by decide, by decide, by decide⟩
theorem names_cons (v : Int) (l : List Int) : names (v :: l) = vname v ++ names l := by
  show nmG (⟨#[]⟩ ++ vname v) l = _
  rw [nil_ba, nmG_eq]
def In5 (l : List Int) : Prop := ∀ v ∈ l, 0 ≤ v ∧ v ≤ 4
theorem names_ne : ∀ {l : List Int}, In5 l → ∀ x ∈ bl (names l), x ≠ 40 ∧ x ≠ 44 ∧ x ≠ 61
  | [], _, x, hx => by simp [names, nmG, bl] at hx
  | v :: l, h, x, hx => by
    rw [names_cons, bl_app] at hx
    obtain ⟨b, e, _, n1, n2, n3⟩ := vix_vname (h v (by simp)).1 (h v (by simp)).2
    rcases List.mem_append.1 hx with hx | hx
    · rw [e] at hx
      rw [List.mem_singleton.1 hx]
      exact ⟨n1, n2, n3⟩
    · exact names_ne (fun u hu => h u (by simp [hu])) x hx
theorem pnG_names : ∀ {l : List Int}, In5 l → ∀ acc, pnG acc (bl (names l)) = some (acc ++ l)
  | [], _, acc => by simp [names, nmG, bl, pnG]
  | v :: l, h, acc => by
    obtain ⟨b, e, e2, _⟩ := vix_vname (h v (by simp)).1 (h v (by simp)).2
    rw [names_cons, bl_app, e, List.singleton_append, pnG, e2]
    simp only
    rw [pnG_names (fun u hu => h u (by simp [hu]))]
    simp
theorem lst_names : ∀ {l : List Int}, In5 l → lst (bl (names l)) = l
  | [], _ => by simp [names, nmG, bl, lst]
  | v :: l, h => by
    obtain ⟨b, e, e2, _⟩ := vix_vname (h v (by simp)).1 (h v (by simp)).2
    have := lst_names (l := l) (fun u hu => h u (by simp [hu]))
    unfold lst at this ⊢
    rw [names_cons, bl_app, e, List.singleton_append, List.filterMap_cons, e2, this]
theorem bl_par (l : List Int) : bl (par l) = 40 :: (bl (names l) ++ [41]) := by
  unfold par
  rw [bl_app, bl_app]
  rfl
theorem pN_par {l : List Int} (h : In5 l) : pN (par l) = some l := by
  have e := bl_par l
  have hs : (par l).size = (bl (names l)).length + 2 := by rw [← bl_length, e]; simp
  have hb : pnB (par l) = true := by
    unfold pnB
    rw [e, hs]
    rw [decide_eq_true (by omega), decide_eq_true (by rfl), decide_eq_true (by
      rw [← List.cons_append, List.getLast?_concat])]
    rfl
  unfold pN
  rw [if_pos hb, e, hs]
  rw [show (bl (names l)).length + 2 - 1 = (bl (names l)).length + 1 by omega, List.take_succ_cons, List.drop_succ_cons, List.drop_zero, List.take_left, pnG_names h]
  rfl
theorem lst_par {l : List Int} (h : In5 l) : lst (bl (par l)) = l := by
  rw [bl_par]
  have := lst_names h
  unfold lst at this ⊢
  rw [List.filterMap_cons, show vix 40 = none from rfl, List.filterMap_append, this]
  simp [vix]
theorem ixc_app {c : UInt8} : ∀ {p : List UInt8} (_ : ∀ x ∈ p, x ≠ c) (r : List UInt8), ixc c (p ++ c :: r) = p.length
  | [], _, r => by simp [ixc]
  | x :: p, h, r => by rw [List.cons_append, ixc, if_neg (h x (by simp)), ixc_app (fun y hy => h y (by simp [hy])) r]; rfl
theorem bl_atomT (x : At) : bl (atomT x) = bl x.1 ++ bl (par x.2) := by rw [← atomT_par, bl_app]
structure OkAt (x : At) : Prop where
  nm : nameB x.1 = true
  vs : In5 x.2
theorem nameB_let {s : ByteArray} (h : nameB s = true) : ∀ x ∈ bl s, letB x = true := by
  unfold nameB at h
  rw [Bool.and_eq_true, List.all_eq_true] at h
  exact h.2
theorem let_ne {x c : UInt8} (h : letB x = true) (hc : letB c = false) : x ≠ c := by
  rintro rfl
  rw [h] at hc
  cases hc
theorem vix_let {x : UInt8} (h : letB x = true) : vix x = none := by
  have h1 : x ≠ 88 := let_ne h (by decide)
  have h2 : x ≠ 89 := let_ne h (by decide)
  have h3 : x ≠ 90 := let_ne h (by decide)
  have h4 : x ≠ 85 := let_ne h (by decide)
  have h5 : x ≠ 86 := let_ne h (by decide)
  unfold vix
  rw [if_neg h1, if_neg h2, if_neg h3, if_neg h4, if_neg h5]
theorem ix_atomT {x : At} (h : OkAt x) : ixc 40 (bl (atomT x)) = x.1.size := by
  rw [bl_atomT, bl_par, ixc_app fun y hy => let_ne (nameB_let h.nm y hy) (by decide), bl_length]
theorem ext_atomT0 {x : At} : (atomT x).extract 0 x.1.size = x.1 := by
  apply bl_inj
  rw [ext_bs, bl_bs, bl_atomT, ← bl_length x.1, List.take_left]
  rfl
theorem ext_atomT1 {x : At} : (atomT x).extract x.1.size (atomT x).size = par x.2 := by
  apply bl_inj
  rw [ext_bs, bl_bs, ← bl_length (atomT x), List.take_length, bl_atomT, ← bl_length x.1, List.drop_left]
theorem spl_atomT {x : At} (h : OkAt x) : (splB 40 (atomT x)).getD 0 ⟨#[]⟩ = x.1 := by
  unfold splB
  rw [bl_atomT, bl_par, spl_two fun y hy => let_ne (nameB_let h.nm y hy) (by decide)]
  rfl
theorem filter_let : ∀ {l : List UInt8}, (∀ x ∈ l, letB x = true) → l.filterMap vix = []
  | [], _ => rfl
  | x :: l, h => by rw [List.filterMap_cons, vix_let (h x (by simp)), filter_let fun y hy => h y (by simp [hy])]
theorem lst_atomT {x : At} (h : OkAt x) : lst (bl (atomT x)) = x.2 := by
  have h1 := lst_par h.vs
  unfold lst at h1 ⊢
  rw [bl_atomT, List.filterMap_append, h1, filter_let (nameB_let h.nm)]
  rfl
theorem pqG_text : ∀ {ats : List At}, (∀ x ∈ ats, OkAt x) → ∀ n acc, pqG n acc (ats.map atomT) = some (mxv n (seen ats), acc ++ ats)
  | [], _, n, acc => by simp [pqG, mxv, seen]
  | x :: ats, h, n, acc => by
    have hx := h x (by simp)
    rw [List.map_cons, pqG, ix_atomT hx, ext_atomT0, ext_atomT1, pN_par hx.vs]
    simp only
    rw [pqG_text (fun y hy => h y (by simp [hy]))]
    simp [mxv, seen, List.foldl_append]
theorem pqS_text : ∀ {ats : List At}, (∀ x ∈ ats, OkAt x) → ∀ n acc, pqS n acc (ats.map atomT) = (mxv n (seen ats), acc ++ ats)
  | [], _, n, acc => by simp [pqS, mxv, seen]
  | x :: ats, h, n, acc => by
    have hx := h x (by simp)
    rw [List.map_cons, pqS, spl_atomT hx, lst_atomT hx, pqS_text (fun y hy => h y (by simp [hy]))]
    simp [mxv, seen, List.foldl_append]
theorem mxv_le : ∀ {l : List Int} {n N : Int}, n ≤ N → (∀ v ∈ l, v < N) → mxv n l ≤ N
  | [], n, N, h, _ => h
  | v :: l, n, N, h, h2 => mxv_le (l := l) (n := max n (v + 1)) (by have := h2 v (by simp); omega) (fun u hu => h2 u (by simp [hu]))
theorem mxv_ge : ∀ {l : List Int} {n : Int}, n ≤ mxv n l ∧ ∀ v ∈ l, v + 1 ≤ mxv n l
  | [], n => ⟨Int.le_refl _, by simp⟩
  | v :: l, n => by
    obtain ⟨h1, h2⟩ := mxv_ge (l := l) (n := max n (v + 1))
    have e : mxv n (v :: l) = mxv (max n (v + 1)) l := rfl
    rw [e]
    refine ⟨by omega, fun u hu => ?_⟩
    rcases List.mem_cons.1 hu with rfl | hu
    · omega
    · exact h2 u hu
structure OkQ (d : Qd) : Prop where
  out : In5 d.2.2
  ats : ∀ x ∈ d.2.1, OkAt x
  ne : d.2.1 ≠ []
  cnt : mxv 0 (seen d.2.1) = d.1
theorem vqB_ok {d : Qd} (h : vqB d = true) : OkQ d := by
  unfold vqB at h
  simp only [Bool.and_eq_true, List.all_eq_true] at h
  obtain ⟨⟨⟨⟨h1, h2⟩, h3⟩, h4⟩, h5⟩ := h
  have b1 := inB_t h1
  have b2 := inB_t h2
  have h3 := (setB_sound h3).1
  have ha : ∀ x ∈ d.2.1, OkAt x ∧ ∀ v ∈ x.2, 0 ≤ v ∧ v < d.1 := by
    intro x hx
    have := h4 x hx
    unfold atomB at this
    simp only [Bool.and_eq_true, List.all_eq_true] at this
    obtain ⟨⟨k1, k2⟩, k3⟩ := this
    have k4 : ∀ v ∈ x.2, 0 ≤ v ∧ v < d.1 := fun v hv => by have := inB_t (k3 v hv); omega
    exact ⟨⟨k1, fun v hv => by have := k4 v hv; omega⟩, k4⟩
  refine ⟨fun v hv => by have := h3 v hv; omega, fun x hx => (ha x hx).1, ?_, ?_⟩
  · intro e
    rw [e] at b2
    simp at b2
  · have hlt : ∀ v ∈ seen d.2.1, v < d.1 := by
      intro v hv
      unfold seen at hv
      obtain ⟨x, hx, hv⟩ := List.mem_flatMap.1 hv
      exact ((ha x hx).2 v hv).2
    have hle := mxv_le (n := 0) (N := d.1) (by omega) hlt
    have hmem : d.1 - 1 ∈ seen d.2.1 := by
      unfold coverB mkU at h5
      rw [List.all_eq_true] at h5
      have := h5 (decide (((d.1 - 1).toNat : Int) ∈ seen d.2.1)) (List.mem_map.2 ⟨(d.1 - 1).toNat, List.mem_range.2 (by omega), rfl⟩)
      have := of_decide_eq_true this
      rwa [Int.toNat_of_nonneg (by omega)] at this
    have := (mxv_ge (n := 0)).2 _ hmem
    omega
theorem bl_fmtQ {d : Qd} (h : vqB d = true) : bl (fmtQ d) = bl (par d.2.2) ++ 61 :: jl 44 ((d.2.1.map atomT).map bl) := by
  rw [← fmtQ_par h, joinF_acc, bl_app, bl_app, joinF_jl]
  simp only [List.append_assoc]
  rfl
theorem par_ne {l : List Int} (h : In5 l) : ∀ x ∈ bl (par l), x ≠ 44 ∧ x ≠ 61 := by
  intro x hx
  rw [bl_par] at hx
  rcases List.mem_cons.1 hx with rfl | hx
  · decide
  · rcases List.mem_append.1 hx with hx | hx
    · exact (names_ne h x hx).2
    · rw [List.mem_singleton.1 hx]; decide
theorem atomT_ne {x : At} (h : OkAt x) : ∀ y ∈ bl (atomT x), y ≠ 44 ∧ y ≠ 61 := by
  intro y hy
  rw [bl_atomT] at hy
  rcases List.mem_append.1 hy with hy | hy
  · exact ⟨let_ne (nameB_let h.nm y hy) (by decide), let_ne (nameB_let h.nm y hy) (by decide)⟩
  · exact par_ne h.vs y hy
theorem jl_mem {c y : UInt8} : ∀ {ps : List (List UInt8)}, y ∈ jl c ps → y = c ∨ ∃ p ∈ ps, y ∈ p
  | [], h => by simp [jl] at h
  | [p], h => .inr ⟨p, by simp, by simpa [jl] using h⟩
  | p :: q :: ps, h => by
    rw [jl] at h
    rcases List.mem_append.1 h with h | h
    · exact .inr ⟨p, by simp, h⟩
    · rcases List.mem_cons.1 h with h | h
      · exact .inl h
      · rcases jl_mem (ps := q :: ps) h with h | ⟨r, hr, h⟩
        · exact .inl h
        · exact .inr ⟨r, List.mem_cons_of_mem _ hr, h⟩
theorem spl_fmtQ {d : Qd} (h : vqB d = true) : splB 61 (fmtQ d) = [par d.2.2, joinF ⟨#[44]⟩ 0 ⟨#[]⟩ (d.2.1.map atomT)] := by
  have ok := vqB_ok h
  have h2 : ∀ y ∈ jl 44 ((d.2.1.map atomT).map bl), y ≠ 61 := by
    intro y hy
    rcases jl_mem hy with e | ⟨p, hp, hy⟩
    · subst e; decide
    · simp only [List.map_map, List.mem_map] at hp
      obtain ⟨x, hx, rfl⟩ := hp
      exact (atomT_ne (ok.ats x hx) y hy).2
  unfold splB
  rw [bl_fmtQ h, spl_two (fun y hy => (par_ne ok.out y hy).2), spl_none h2, List.map_cons, List.map_cons, List.map_nil, ← joinF_jl]
  rfl
theorem spl_atoms {d : Qd} (h : vqB d = true) : splB 44 (joinF ⟨#[44]⟩ 0 ⟨#[]⟩ (d.2.1.map atomT)) = d.2.1.map atomT := by
  have ok := vqB_ok h
  refine splB_joinF (by simpa using ok.ne) fun p hp y hy => ?_
  obtain ⟨x, hx, rfl⟩ := List.mem_map.1 hp
  exact (atomT_ne (ok.ats x hx) y hy).1
theorem pQ_text {d : Qd} (h : vqB d = true) : pQ (fmtQ d) = some d := by
  have ok := vqB_ok h
  unfold pQ
  rw [spl_fmtQ h]
  simp only [List.getD_cons_zero, List.getD_cons_succ, List.length_cons, List.length_nil, pN_par ok.out, spl_atoms h, pqG_text ok.ats, List.nil_append, ok.cnt, if_true]
  exact finQ_self h
theorem pQs_text {d : Qd} (h : vqB d = true) : pQs (fmtQ d) = some d := by
  have ok := vqB_ok h
  unfold pQs
  rw [spl_fmtQ h]
  simp only [List.getD_cons_zero, List.getD_cons_succ, List.length_cons, List.length_nil, lst_par ok.out, spl_atoms h, pqS_text ok.ats, List.nil_append, ok.cnt, if_true]
  exact finQ_self h
theorem pQs_eq (s : ByteArray) : pQs s = pQ s := by
  cases h : pQ s with
  | some r =>
    obtain ⟨h1, rfl⟩ := pQ_some h
    exact pQs_text h1
  | none =>
    cases h2 : pQs s with
    | none => rfl
    | some r =>
      obtain ⟨h1, rfl⟩ := pQs_some h2
      rw [pQ_text h1] at h
      cases h
end Go.Proofs.Ytbjpkfgkmilkdaa
