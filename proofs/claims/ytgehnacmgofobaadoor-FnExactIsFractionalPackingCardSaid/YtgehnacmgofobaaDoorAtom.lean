/- Contracts on atoms: the laws' helpers; membership; the variables of an atom; inclusion. -/
import Derived.Test.YtgehnacmgofobaaDoorInts
import Derived.Test.YtgehnacmgofobaaDoorOpen
namespace Go.Proofs.YtgehnacmgofobaaDoor
open Go.RowKit

def szA (left : Int) (s n : Nat) : Int := if left - s < 0 then -1 else szL (left - s) n
theorem szA_le {left : Int} {s n : Nat} (h : 0 ≤ szA left s n) : szA left s n ≤ left := by
  unfold szA at h ⊢
  split
  · simp_all
  · rename_i h1
    rw [if_neg h1] at h
    have := szL_le h
    omega
theorem szA_small {left : Int} {s n : Nat} (h : 0 ≤ szA left s n) : (s : Int) + n ≤ left := by
  unfold szA at h
  split at h
  · omega
  · have := szL_small h
    omega
theorem szAtom_any {s : ByteArray} {A : Option Addr} {n c : Nat} {left : Int} {w : World} (hs : s.size ≤ 9223372036854775807) (hn : n ≤ 9223372036854775807) (h1 : 0 ≤ left) (h2 : left ≤ 1000000000) :
    Calls Tryd.prog 34 #[.agg #[.string s, .slice A n c], .int .i64 left] w fun e w' => e = .returned (.int .i64 (szA left s.size n)) ∧ ∃ y, w' = ext w y := by
  unfold szA
  by_cases h : left - s.size < 0
  · rw [if_pos h]
    go_enter Tryd.func34, Tryd.ntmps34
    go_wp2_with fail
    go_ret
    exact ⟨rfl, (by refine Chg.isExt (F := []) ?_ (refl_ext _) (by simp); repeat (with_reducible (first | exact Chg.refl _ _ | exact Nat.le_refl _ | exact Chg.ofExt (by assumption) | refine Chg.trans0 ?_ (by assumption) | refine Chg.extS ?_ _ | refine Chg.alloc ?_ _ | refine Chg.drew ?_ | refine Chg.setCellE ?_ ?_ _ | refine le_addk ?_ _ | refine le_ext ?_ | refine le_alloc ?_ _ | refine le_setC ?_ _ _ | refine le_drew ?_ | assumption | (refine Nat.le_of_lt ?_; omega) | omega)))⟩
  · rw [if_neg h]
    by_cases h' : szL (left - s.size) n < 0
    · have e : szL (left - s.size) n = -1 := by unfold szL at h' ⊢; split <;> simp_all
      go_enter Tryd.func34, Tryd.ntmps34
      go_wp2_with (go_at_call 16; refine (szIntS_any hn (by omega) (by omega)).mono ?_; rintro e w' ⟨rfl, rfl⟩)
      go_ret
      exact ⟨by rw [e]; rfl, (by refine Chg.isExt (F := []) ?_ (refl_ext _) (by simp); repeat (with_reducible (first | exact Chg.refl _ _ | exact Nat.le_refl _ | exact Chg.ofExt (by assumption) | refine Chg.trans0 ?_ (by assumption) | refine Chg.extS ?_ _ | refine Chg.alloc ?_ _ | refine Chg.drew ?_ | refine Chg.setCellE ?_ ?_ _ | refine le_addk ?_ _ | refine le_ext ?_ | refine le_alloc ?_ _ | refine le_setC ?_ _ _ | refine le_drew ?_ | assumption | (refine Nat.le_of_lt ?_; omega) | omega)))⟩
    · go_enter Tryd.func34, Tryd.ntmps34
      go_wp2_with (go_at_call 16; refine (szIntS_any hn (by omega) (by omega)).mono ?_; rintro e w' ⟨rfl, rfl⟩)
      go_ret
      exact ⟨rfl, (by refine Chg.isExt (F := []) ?_ (refl_ext _) (by simp); repeat (with_reducible (first | exact Chg.refl _ _ | exact Nat.le_refl _ | exact Chg.ofExt (by assumption) | refine Chg.trans0 ?_ (by assumption) | refine Chg.extS ?_ _ | refine Chg.alloc ?_ _ | refine Chg.drew ?_ | refine Chg.setCellE ?_ ?_ _ | refine le_addk ?_ _ | refine le_ext ?_ | refine le_alloc ?_ _ | refine le_setC ?_ _ _ | refine le_drew ?_ | assumption | (refine Nat.le_of_lt ?_; omega) | omega)))⟩

theorem toAtom_any {s : ByteArray} {A : Option Addr} {c : Nat} {xs : List Int} {w : World} (hx : xs.length ≤ 1048576) (h1 : RI w A xs) :
    Calls Tryd.prog 40 #[.agg #[.string s, .slice A xs.length c]] w fun e w' => ∃ v F, e = .returned (.agg #[.string s, v]) ∧ (∃ y, w' = ext w y) ∧ SV 3 1 sI w' v xs F ∧ ∀ b ∈ F, w.heap.size ≤ b := by
  go_enter Tryd.func40, Tryd.ntmps40
  go_wp2_with (go_at_call 23; refine (toIntS_any hx ?_).mono ?_)
  · exact h1.toExt (by refine Chg.isExt (F := []) ?_ (refl_ext _) (by simp); repeat (with_reducible (first | exact Chg.refl _ _ | exact Nat.le_refl _ | exact Chg.ofExt (by assumption) | refine Chg.trans0 ?_ (by assumption) | refine Chg.extS ?_ _ | refine Chg.alloc ?_ _ | refine Chg.drew ?_ | refine Chg.setCellE ?_ ?_ _ | refine le_addk ?_ _ | refine le_ext ?_ | refine le_alloc ?_ _ | refine le_setC ?_ _ _ | refine le_drew ?_ | assumption | (refine Nat.le_of_lt ?_; omega) | omega)))
  · rintro e w1 ⟨v, F, rfl, ⟨y, rfl⟩, hS, hF⟩
    obtain ⟨A', cap, rfl, hcap, _⟩ := hS.form
    go_wp2
    have hF' : ∀ b ∈ F, w.heap.size + 3 ≤ b := by simpa using hF
    exact bodyPost_ret (v := .agg #[.string s, .slice A' xs.length cap]) (by simp [results, Tryd.results40, go_sem]) rfl ⟨_, F, rfl, (by refine Chg.isExt (F := []) ?_ (refl_ext _) (by simp); repeat (with_reducible (first | exact Chg.refl _ _ | exact Nat.le_refl _ | exact Chg.ofExt (by assumption) | refine Chg.trans0 ?_ (by assumption) | refine Chg.extS ?_ _ | refine Chg.alloc ?_ _ | refine Chg.drew ?_ | refine Chg.setCellE ?_ ?_ _ | refine le_addk ?_ _ | refine le_ext ?_ | refine le_alloc ?_ _ | refine le_setC ?_ _ _ | refine le_drew ?_ | assumption | (refine Nat.le_of_lt ?_; omega) | omega))), ((hS.setC hF' (by omega) _).setC hF' (by omega) _).setC hF' (by omega) _, fun b hb => by have := hF' b hb; omega⟩

theorem eqAtom_any {s s' : ByteArray} {A A' : Option Addr} {c c' : Nat} {xs ys : List Int} {w : World} (hx : xs.length ≤ 1000000000) (h1 : RI w A xs) (hy : ys.length ≤ 1000000000) (h2 : RI w A' ys) :
    Calls Tryd.prog 49 #[.agg #[.string s, .slice A xs.length c], .agg #[.string s', .slice A' ys.length c']] w fun e w' => e = .returned (.bool (decide ((s, xs) = (s', ys)))) ∧ ∃ y, w' = ext w y := by
  by_cases hs : s = s'
  · subst hs
    by_cases h : decide (xs = ys) = true
    all_goals
      go_enter Tryd.func49, Tryd.ntmps49
      go_wp2_with (go_at_call 31; refine (eqIntS_any hx (h1.toExt (by refine Chg.isExt (F := []) ?_ (refl_ext _) (by simp); repeat (with_reducible (first | exact Chg.refl _ _ | exact Nat.le_refl _ | exact Chg.ofExt (by assumption) | refine Chg.trans0 ?_ (by assumption) | refine Chg.extS ?_ _ | refine Chg.alloc ?_ _ | refine Chg.drew ?_ | refine Chg.setCellE ?_ ?_ _ | refine le_addk ?_ _ | refine le_ext ?_ | refine le_alloc ?_ _ | refine le_setC ?_ _ _ | refine le_drew ?_ | assumption | (refine Nat.le_of_lt ?_; omega) | omega)))) hy (h2.toExt (by refine Chg.isExt (F := []) ?_ (refl_ext _) (by simp); repeat (with_reducible (first | exact Chg.refl _ _ | exact Nat.le_refl _ | exact Chg.ofExt (by assumption) | refine Chg.trans0 ?_ (by assumption) | refine Chg.extS ?_ _ | refine Chg.alloc ?_ _ | refine Chg.drew ?_ | refine Chg.setCellE ?_ ?_ _ | refine le_addk ?_ _ | refine le_ext ?_ | refine le_alloc ?_ _ | refine le_setC ?_ _ _ | refine le_drew ?_ | assumption | (refine Nat.le_of_lt ?_; omega) | omega))))).mono ?_; rintro e w' ⟨rfl, y, rfl⟩)
      go_ret
      exact ⟨by simp at h; simp [h], (by refine Chg.isExt (F := []) ?_ (refl_ext _) (by simp); repeat (with_reducible (first | exact Chg.refl _ _ | exact Nat.le_refl _ | exact Chg.ofExt (by assumption) | refine Chg.trans0 ?_ (by assumption) | refine Chg.extS ?_ _ | refine Chg.alloc ?_ _ | refine Chg.drew ?_ | refine Chg.setCellE ?_ ?_ _ | refine le_addk ?_ _ | refine le_ext ?_ | refine le_alloc ?_ _ | refine le_setC ?_ _ _ | refine le_drew ?_ | assumption | (refine Nat.le_of_lt ?_; omega) | omega)))⟩
  · have hb : (s.toList == s'.toList) = false := by rw [str_beq, decide_eq_false hs]
    go_enter Tryd.func49, Tryd.ntmps49
    go_wp2_with fail
    go_ret
    exact ⟨by rw [decide_eq_false (by simp [hs])]; rfl, (by refine Chg.isExt (F := []) ?_ (refl_ext _) (by simp); repeat (with_reducible (first | exact Chg.refl _ _ | exact Nat.le_refl _ | exact Chg.ofExt (by assumption) | refine Chg.trans0 ?_ (by assumption) | refine Chg.extS ?_ _ | refine Chg.alloc ?_ _ | refine Chg.drew ?_ | refine Chg.setCellE ?_ ?_ _ | refine le_addk ?_ _ | refine le_ext ?_ | refine le_alloc ?_ _ | refine le_setC ?_ _ _ | refine le_drew ?_ | assumption | (refine Nat.le_of_lt ?_; omega) | omega)))⟩

/-! membership -/
theorem not_mem_of {xs : List Int} {k : Nat} {n : Int} (hk : ¬ k < xs.length) (h : ∀ j (h : j < xs.length), j < k → xs[j] ≠ n) : n ∉ xs := fun hm => by
  obtain ⟨j, hj, e⟩ := List.getElem_of_mem hm
  exact h j hj (by omega) e
theorem ne_snoc {xs : List Int} {k : Nat} {n : Int} (hk : k < xs.length) (h : ∀ j (h : j < xs.length), j < k → xs[j] ≠ n) (hn : xs[k] ≠ n) : ∀ j (h : j < xs.length), j < k + 1 → xs[j] ≠ n := fun j hj hlt => by
  by_cases e : j = k
  · subst e; exact hn
  · exact h j hj (by omega)

set_option maxHeartbeats 400000 in
theorem specContains_any {s : ByteArray} {A : Option Addr} {c : Nat} {xs : List Int} {n : Int} {w : World} (hx : xs.length ≤ 1000000000) (h1 : RI w A xs) :
    Calls Tryd.prog 19 #[.agg #[.string s, .slice A xs.length c], .int .i64 n] w fun e w' => e = .returned (.bool (decide (n ∈ xs))) ∧ ∃ y, w' = ext w y := by
  go_enter Tryd.func19, Tryd.ntmps19
  go_wp2
  go_loop [5] (fun i => ∃ k : Nat, i = .int .i64 k ∧ k ≤ xs.length ∧ ∀ j (h : j < xs.length), j < k → xs[j] ≠ n) (fun i => xs.length - (intOf i).toNat)
  case atStart => exact ⟨0, rfl, by omega, by simp⟩
  case round =>
    obtain ⟨k, rfl, hk, hj⟩ := hrel
    have Hj := Lib.hid hj
    clear hj
    by_cases hlt : k < xs.length
    · obtain ⟨b, o, rfl, hb, hc⟩ := h1.atI hlt
      go_wp2
      · go_ret
        have e : xs[k] = n := by simpa using ‹(xs[k] == n) = true›
        exact ⟨by rw [decide_eq_true (by rw [← e]; exact List.getElem_mem hlt)]; rfl, (by refine Chg.isExt (F := []) ?_ (refl_ext _) (by simp); repeat (with_reducible (first | exact Chg.refl _ _ | exact Nat.le_refl _ | exact Chg.ofExt (by assumption) | refine Chg.trans0 ?_ (by assumption) | refine Chg.extS ?_ _ | refine Chg.alloc ?_ _ | refine Chg.drew ?_ | refine Chg.setCellE ?_ ?_ _ | refine le_addk ?_ _ | refine le_ext ?_ | refine le_alloc ?_ _ | refine le_setC ?_ _ _ | refine le_drew ?_ | assumption | (refine Nat.le_of_lt ?_; omega) | omega)))⟩
      · have e : xs[k] ≠ n := by simpa using ‹(xs[k] == n) = false›
        exact ⟨⟨k + 1, by go_num, by omega, ne_snoc hlt Hj.out e⟩, by simp [intOf]; omega⟩
    · go_wp2
      go_ret
      exact ⟨by rw [decide_eq_false (not_mem_of hlt Hj.out)]; rfl, (by refine Chg.isExt (F := []) ?_ (refl_ext _) (by simp); repeat (with_reducible (first | exact Chg.refl _ _ | exact Nat.le_refl _ | exact Chg.ofExt (by assumption) | refine Chg.trans0 ?_ (by assumption) | refine Chg.extS ?_ _ | refine Chg.alloc ?_ _ | refine Chg.drew ?_ | refine Chg.setCellE ?_ ?_ _ | refine le_addk ?_ _ | refine le_ext ?_ | refine le_alloc ?_ _ | refine le_setC ?_ _ _ | refine le_drew ?_ | assumption | (refine Nat.le_of_lt ?_; omega) | omega)))⟩

/-! the place of a number in a list, -1 where it is not there -/
def iof (k : Nat) (n : Int) : List Int → Int
  | [] => -1
  | x :: xs => if x = n then k else iof (k + 1) n xs
theorem iof_step {k j : Nat} {n : Int} {xs : List Int} (h : j < xs.length) : iof k n (xs.drop j) = if xs[j] = n then (k : Int) else iof (k + 1) n (xs.drop (j + 1)) := by
  rw [List.drop_eq_getElem_cons h]; rfl
theorem iof_nonneg {n : Int} : ∀ (k : Nat) (xs : List Int), 0 ≤ iof k n xs ↔ n ∈ xs
  | _, [] => by simp [iof]
  | k, x :: xs => by
    unfold iof
    split
    · rename_i h; subst h; simp
    · rename_i h
      rw [iof_nonneg (k + 1) xs, List.mem_cons]
      constructor
      · exact .inr
      · rintro (e | e)
        · exact absurd e.symm h
        · exact e

set_option maxHeartbeats 400000 in
theorem indexOf_any {A : Option Addr} {c : Nat} {xs : List Int} {n : Int} {w : World} (hx : xs.length ≤ 1000000000) (h1 : RI w A xs) :
    Calls Tryd.prog 55 #[.slice A xs.length c, .int .i64 n] w fun e w' => e = .returned (.int .i64 (iof 0 n xs)) ∧ ∃ y, w' = ext w y := by
  go_enter Tryd.func55, Tryd.ntmps55
  go_wp2
  go_loop [9] (fun i => ∃ k : Nat, i = .int .i64 k ∧ k ≤ xs.length ∧ iof k n (xs.drop k) = iof 0 n xs) (fun i => xs.length - (intOf i).toNat)
  case atStart => exact ⟨0, rfl, by omega, by simp⟩
  case round =>
    obtain ⟨k, rfl, hk, hj⟩ := hrel
    have Hj := Lib.hid hj
    clear hj
    by_cases hlt : k < xs.length
    · obtain ⟨b, o, rfl, hb, hc⟩ := h1.atI hlt
      go_wp2
      · go_ret
        have e := Hj.out
        rw [iof_step hlt, if_pos (by simpa using ‹(xs[k] == n) = true›)] at e
        exact ⟨by rw [← e]; rfl, refl_ext w⟩
      · have e := Hj.out
        rw [iof_step hlt, if_neg (by simpa using ‹(xs[k] == n) = false›)] at e
        exact ⟨⟨k + 1, by go_num, by omega, e⟩, by simp [intOf]; omega⟩
    · go_wp2
      go_ret
      have e := Hj.out
      rw [List.drop_eq_nil_of_le (by omega)] at e
      exact ⟨by rw [← e]; rfl, refl_ext w⟩

theorem hasInt_any {A : Option Addr} {c : Nat} {xs : List Int} {n : Int} {w : World} (hx : xs.length ≤ 1000000000) (h1 : RI w A xs) :
    Calls Tryd.prog 45 #[.slice A xs.length c, .int .i64 n] w fun e w' => e = .returned (.bool (decide (n ∈ xs))) ∧ ∃ y, w' = ext w y := by
  go_enter Tryd.func45, Tryd.ntmps45
  go_wp2_with (go_at_call 55; refine (indexOf_any hx h1).mono ?_; rintro e w' ⟨rfl, y, rfl⟩)
  go_ret
  exact ⟨by simp only [← iof_nonneg 0 xs]; rfl, y, rfl⟩

theorem Contains_any {s : ByteArray} {A : Option Addr} {c : Nat} {xs : List Int} {n : Int} {w : World} (hx : xs.length ≤ 1000000000) (h1 : RI w A xs) :
    Calls Tryd.prog 27 #[.agg #[.string s, .slice A xs.length c], .int .i64 n] w fun e w' => e = .returned (.bool (decide (n ∈ xs))) ∧ ∃ y, w' = ext w y := by
  go_enter Tryd.func27, Tryd.ntmps27
  go_wp2_with (go_at_call 45; refine (hasInt_any hx (h1.toExt (by refine Chg.isExt (F := []) ?_ (refl_ext _) (by simp); repeat (with_reducible (first | exact Chg.refl _ _ | exact Nat.le_refl _ | exact Chg.ofExt (by assumption) | refine Chg.trans0 ?_ (by assumption) | refine Chg.extS ?_ _ | refine Chg.alloc ?_ _ | refine Chg.drew ?_ | refine Chg.setCellE ?_ ?_ _ | refine le_addk ?_ _ | refine le_ext ?_ | refine le_alloc ?_ _ | refine le_setC ?_ _ _ | refine le_drew ?_ | assumption | (refine Nat.le_of_lt ?_; omega) | omega))))).mono ?_; rintro e w' ⟨rfl, y, rfl⟩)
  go_ret
  exact ⟨rfl, (by refine Chg.isExt (F := []) ?_ (refl_ext _) (by simp); repeat (with_reducible (first | exact Chg.refl _ _ | exact Nat.le_refl _ | exact Chg.ofExt (by assumption) | refine Chg.trans0 ?_ (by assumption) | refine Chg.extS ?_ _ | refine Chg.alloc ?_ _ | refine Chg.drew ?_ | refine Chg.setCellE ?_ ?_ _ | refine le_addk ?_ _ | refine le_ext ?_ | refine le_alloc ?_ _ | refine le_setC ?_ _ _ | refine le_drew ?_ | assumption | (refine Nat.le_of_lt ?_; omega) | omega)))⟩

/-! inclusion -/
def subB (xs ys : List Int) : Bool := xs.all fun x => decide (x ∈ ys)
theorem subB_step {xs ys : List Int} {k : Nat} (h : k < xs.length) : subB (xs.drop k) ys = (decide (xs[k] ∈ ys) && subB (xs.drop (k + 1)) ys) := by
  rw [List.drop_eq_getElem_cons h]; rfl

/-! the variables of an atom, in ascending order -/
def avars : Nat → Nat → List Int → List Int
  | 0, _, _ => []
  | f + 1, k, xs => if (k : Int) ∈ xs then (k : Int) :: avars f (k + 1) xs else avars f (k + 1) xs
theorem avars_step {k : Nat} {xs : List Int} (h : k < 5) : avars (5 - k) k xs = if (k : Int) ∈ xs then (k : Int) :: avars (5 - (k + 1)) (k + 1) xs else avars (5 - (k + 1)) (k + 1) xs := by
  rw [show 5 - k = (5 - (k + 1)) + 1 by omega, avars]
theorem avars_length : ∀ (f k : Nat) (xs : List Int), (avars f k xs).length ≤ f
  | 0, _, _ => by simp [avars]
  | f + 1, k, xs => by
    have := avars_length f (k + 1) xs
    unfold avars
    split <;> simp <;> omega

set_option maxHeartbeats 400000 in
theorem AtomVariables_any {s : ByteArray} {A : Option Addr} {c : Nat} {xs : List Int} {w : World} (hx : xs.length ≤ 1000000000) (h1 : RI w A xs) :
    Calls Tryd.prog 33 #[.agg #[.string s, .slice A xs.length c]] w fun e w' => ∃ v F, e = .returned v ∧ (∃ y, w' = ext w y) ∧ SV 3 1 sI w' v (avars 5 0 xs) F ∧ ∀ b ∈ F, w.heap.size ≤ b := by
  go_enter Tryd.func33, Tryd.ntmps33
  go_wp2
  refine wp_name ?_
  intro W hW
  have xW : ∃ y, W = ext w y := by rw [hW.out]; exact (by refine Chg.isExt (F := []) ?_ (refl_ext _) (by simp); repeat (with_reducible (first | exact Chg.refl _ _ | exact Nat.le_refl _ | exact Chg.ofExt (by assumption) | refine Chg.trans0 ?_ (by assumption) | refine Chg.extS ?_ _ | refine Chg.alloc ?_ _ | refine Chg.drew ?_ | refine Chg.setCellE ?_ ?_ _ | refine le_addk ?_ _ | refine le_ext ?_ | refine le_alloc ?_ _ | refine le_setC ?_ _ _ | refine le_drew ?_ | assumption | (refine Nat.le_of_lt ?_; omega) | omega)))
  have BW0 : BoxAt W (w.heap.size) #[.string s, .slice A xs.length c] := by rw [hW.out]; refine ⟨?_, fun j => ?_, fun j => ?_⟩ <;> go_simp
  obtain ⟨lW0, bW0, fW0⟩ := BW0
  clear hW
  have h1 := h1.toExt xW
  go_loopw [3, 4] (fun v i wr => ∃ (k : Nat) (ds : List Int) (F : List Nat), i = .int .i64 k ∧ k ≤ 5 ∧ SV 3 1 sI wr v ds F ∧ (∀ b ∈ F, W.heap.size ≤ b) ∧ (∃ y, wr = ext W y) ∧ ds.length ≤ k ∧ ds ++ avars (5 - k) k xs = avars 5 0 xs) (fun _ i _ => 5 - (intOf i).toNat)
  case atStart => exact ⟨0, [], [], rfl, by omega, SV.nil, by simp, refl_ext W, by simp, by simp⟩
  case round =>
    obtain ⟨k, ds, F, rfl, hk, hS, hF, ⟨y, rfl⟩, hl, hj⟩ := hrel
    have Hj := Lib.hid hj
    have HF := Lib.hid hF
    clear hj hF
    by_cases hlt : k < 5
    · go_wp2_with (first
        | (go_at_call 27; refine (Contains_any hx h1.ext).mono ?_; rintro e w' ⟨rfl, hx1⟩; obtain ⟨y', e1⟩ := trans_ext ⟨_, rfl⟩ hx1; have hS1 := hS.toExt hx1; subst e1; clear hS hx1)
        | (at_builtin; refine wpList_appI _ rfl _ _ _ rfl tI rfl rfl rfl hS1 (by omega) (by omega) ?_; intro v' w' F' hS2 hC2 hF2))
      · have e := Hj.out
        rw [avars_step hlt, if_pos ‹(k : Int) ∈ xs›] at e
        exact ⟨⟨k + 1, ds ++ [(k : Int)], F', by go_num, by omega, hS2, newer HF.out size_ext hF2, hC2.isExt ⟨_, rfl⟩ HF.out, by simp; omega, by simpa using e⟩, by simp [intOf]; omega⟩
      · have e := Hj.out
        rw [avars_step hlt, if_neg ‹¬ (k : Int) ∈ xs›] at e
        exact ⟨⟨k + 1, ds, F, by go_num, by omega, hS1, HF.out, ⟨_, rfl⟩, by omega, e⟩, by simp [intOf]; omega⟩
    · go_wp2
      go_ret
      have e := Hj.out
      rw [show 5 - k = 0 by omega, avars, List.append_nil] at e
      exact ⟨_, F, rfl, trans_ext xW ⟨_, rfl⟩, by rw [← e]; exact hS, fun b hb => Nat.le_trans (size_of_ext xW) (HF.out b hb)⟩

end Go.Proofs.YtgehnacmgofobaaDoor
