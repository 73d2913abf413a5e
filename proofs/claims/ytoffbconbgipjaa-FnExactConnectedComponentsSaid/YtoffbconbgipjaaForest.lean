/- Contracts on join forests: the laws' helpers, the root, the children. -/
import Derived.Test.YtoffbconbgipjaaInts
namespace Go.Proofs.Ytoffbconbgipjaa
open Go.RowKit

theorem szJoinForest_any {A : Option Addr} {n c : Nat} {left : Int} {w : World} (hn : n ≤ 9223372036854775807) (h1 : 0 ≤ left) (h2 : left ≤ 1000000000) :
    Calls Try.prog 43 #[.agg #[.slice A n c], .int .i64 left] w fun e w' => e = .returned (.int .i64 (szL left n)) ∧ ∃ y, w' = ext w y := by
  by_cases h : szL left n < 0
  · have e : szL left n = -1 := by unfold szL at h ⊢; split <;> simp_all
    go_enter Try.func43, Try.ntmps43
    go_wp2_with (go_at_call 52; refine (szIntS_any hn h1 h2).mono ?_; rintro e w' ⟨rfl, rfl⟩)
    go_ret
    exact ⟨by rw [e]; rfl, alloc_ext _ _⟩
  · go_enter Try.func43, Try.ntmps43
    go_wp2_with (go_at_call 52; refine (szIntS_any hn h1 h2).mono ?_; rintro e w' ⟨rfl, rfl⟩)
    go_ret
    exact ⟨rfl, alloc_ext _ _⟩

theorem toJoinForest_any {A : Option Addr} {c : Nat} {xs : List Int} {w : World} (hx : xs.length ≤ 1048576) (h1 : RI w A xs) :
    Calls Try.prog 45 #[.agg #[.slice A xs.length c]] w fun e w' => ∃ v F, e = .returned (.agg #[v]) ∧ (∃ y, w' = ext w y) ∧ SV 3 1 sI w' v xs F ∧ ∀ b ∈ F, w.heap.size ≤ b := by
  go_enter Try.func45, Try.ntmps45
  go_wp2_with (go_at_call 54; refine (toIntS_any hx ?_).mono ?_)
  · exact h1.toExt (by refine Chg.isExt (F := []) ?_ (refl_ext _) (by simp); repeat (with_reducible (first | exact Chg.refl _ _ | exact Nat.le_refl _ | exact Chg.ofExt (by assumption) | refine Chg.trans0 ?_ (by assumption) | refine Chg.extS ?_ _ | refine Chg.alloc ?_ _ | refine Chg.drew ?_ | refine Chg.setCellE ?_ ?_ _ | refine le_addk ?_ _ | refine le_ext ?_ | refine le_alloc ?_ _ | refine le_setC ?_ _ _ | refine le_drew ?_ | assumption | (refine Nat.le_of_lt ?_; omega) | omega)))
  · rintro e w1 ⟨v, F, rfl, ⟨y, rfl⟩, hS, hF⟩
    obtain ⟨A', cap, rfl, hcap, _⟩ := hS.form
    go_wp2
    have hF' : ∀ b ∈ F, w.heap.size + 3 ≤ b := by simpa using hF
    exact bodyPost_ret (v := .agg #[.slice A' xs.length cap]) (by simp [results, Try.results45, go_sem]) rfl ⟨_, F, rfl, (by refine Chg.isExt (F := []) ?_ (refl_ext _) (by simp); repeat (with_reducible (first | exact Chg.refl _ _ | exact Nat.le_refl _ | exact Chg.ofExt (by assumption) | refine Chg.trans0 ?_ (by assumption) | refine Chg.extS ?_ _ | refine Chg.alloc ?_ _ | refine Chg.drew ?_ | refine Chg.setCellE ?_ ?_ _ | refine le_addk ?_ _ | refine le_ext ?_ | refine le_alloc ?_ _ | refine le_setC ?_ _ _ | refine le_drew ?_ | assumption | (refine Nat.le_of_lt ?_; omega) | omega))), (hS.setC hF' (by omega) _).setC hF' (by omega) _, fun b hb => by have := hF' b hb; omega⟩

theorem eqJoinForest_any {A A' : Option Addr} {c c' : Nat} {xs ys : List Int} {w : World} (hx : xs.length ≤ 1000000000) (h1 : RI w A xs) (hy : ys.length ≤ 1000000000) (h2 : RI w A' ys) :
    Calls Try.prog 40 #[.agg #[.slice A xs.length c], .agg #[.slice A' ys.length c']] w fun e w' => e = .returned (.bool (decide (xs = ys))) ∧ ∃ y, w' = ext w y := by
  by_cases h : decide (xs = ys) = true
  all_goals
    go_enter Try.func40, Try.ntmps40
    go_wp2_with (go_at_call 17; refine (eqIntS_any hx (h1.toExt (by refine Chg.isExt (F := []) ?_ (refl_ext _) (by simp); repeat (with_reducible (first | exact Chg.refl _ _ | exact Nat.le_refl _ | exact Chg.ofExt (by assumption) | refine Chg.trans0 ?_ (by assumption) | refine Chg.extS ?_ _ | refine Chg.alloc ?_ _ | refine Chg.drew ?_ | refine Chg.setCellE ?_ ?_ _ | refine le_addk ?_ _ | refine le_ext ?_ | refine le_alloc ?_ _ | refine le_setC ?_ _ _ | refine le_drew ?_ | assumption | (refine Nat.le_of_lt ?_; omega) | omega)))) hy (h2.toExt (by refine Chg.isExt (F := []) ?_ (refl_ext _) (by simp); repeat (with_reducible (first | exact Chg.refl _ _ | exact Nat.le_refl _ | exact Chg.ofExt (by assumption) | refine Chg.trans0 ?_ (by assumption) | refine Chg.extS ?_ _ | refine Chg.alloc ?_ _ | refine Chg.drew ?_ | refine Chg.setCellE ?_ ?_ _ | refine le_addk ?_ _ | refine le_ext ?_ | refine le_alloc ?_ _ | refine le_setC ?_ _ _ | refine le_drew ?_ | assumption | (refine Nat.le_of_lt ?_; omega) | omega))))).mono ?_; rintro e w' ⟨rfl, y, rfl⟩)
    go_ret
    exact ⟨by simp [h], (by refine Chg.isExt (F := []) ?_ (refl_ext _) (by simp); repeat (with_reducible (first | exact Chg.refl _ _ | exact Nat.le_refl _ | exact Chg.ofExt (by assumption) | refine Chg.trans0 ?_ (by assumption) | refine Chg.extS ?_ _ | refine Chg.alloc ?_ _ | refine Chg.drew ?_ | refine Chg.setCellE ?_ ?_ _ | refine le_addk ?_ _ | refine le_ext ?_ | refine le_alloc ?_ _ | refine le_setC ?_ _ _ | refine le_drew ?_ | assumption | (refine Nat.le_of_lt ?_; omega) | omega)))⟩
theorem markJoinForest_any {v : Value} {xs : List Int} {F : List Nat} {k0 : Int} {w : World} (hx : xs.length ≤ 1000000000) (hS : SV 3 1 sI w v xs F) (h0 : 0 ≤ k0) (hk0 : k0 ≤ 100000000000) :
    Calls Try.prog 41 #[.agg #[v], .int .i64 k0] w fun e w' => e = .returned (.int .i64 (k0 + xs.length)) ∧ SV 3 1 sI w' v (marks k0 xs.length) F ∧ Chg F w w' := by
  obtain ⟨A, cap, rfl, _, _⟩ := hS.form
  go_enter Try.func41, Try.ntmps41
  go_wp2_with (go_at_call 20; refine (markIntS_any hx (hS.allocO _) h0 hk0).mono ?_; rintro e w' ⟨rfl, hS', hC⟩)
  go_ret
  exact ⟨rfl, hS', ((Chg.refl F w).alloc _).trans hC fun x h => .inl h⟩

/-! the root -/
def jroot (i : Nat) (root : Int) : List Int → Int
  | [] => root
  | p :: ps => if p = -1 then (if 0 ≤ root then -1 else jroot (i + 1) i ps) else jroot (i + 1) root ps
theorem jroot_step {i k : Nat} {root : Int} {xs : List Int} (h : k < xs.length) : jroot i root (xs.drop k) = if xs[k] = -1 then (if 0 ≤ root then -1 else jroot (i + 1) i (xs.drop (k + 1))) else jroot (i + 1) root (xs.drop (k + 1)) := by
  rw [List.drop_eq_getElem_cons h]; rfl

set_option maxHeartbeats 400000 in
theorem specJoinTreeRoot_any {A : Option Addr} {c : Nat} {xs : List Int} {w : World} (hx : xs.length ≤ 1000000000) (h1 : RI w A xs) :
    Calls Try.prog 77 #[.agg #[.slice A xs.length c]] w fun e w' => e = .returned (.int .i64 (jroot 0 (-1) xs)) ∧ ∃ y, w' = ext w y := by
  go_enter Try.func77, Try.ntmps77
  go_wp2
  go_loop [3, 4] (fun r i => ∃ (k : Nat) (root : Int), i = .int .i64 k ∧ r = .int .i64 root ∧ k ≤ xs.length ∧ jroot k root (xs.drop k) = jroot 0 (-1) xs) (fun _ i => xs.length - (intOf i).toNat)
  case atStart => exact ⟨0, -1, rfl, rfl, by omega, by simp⟩
  case round =>
    obtain ⟨k, root, rfl, rfl, hk, hj⟩ := hrel
    have Hj := Lib.hid hj
    clear hj
    by_cases hlt : k < xs.length
    · obtain ⟨b, o, rfl, hb, hc⟩ := h1.atI hlt
      go_wp2
      · have e := Hj.out
        rw [jroot_step hlt, if_pos (by simpa using ‹(xs[k] == -1) = true›), if_pos ‹0 ≤ root›] at e
        go_ret
        exact ⟨by rw [← e]; rfl, (by refine Chg.isExt (F := []) ?_ (refl_ext _) (by simp); repeat (with_reducible (first | exact Chg.refl _ _ | exact Nat.le_refl _ | exact Chg.ofExt (by assumption) | refine Chg.trans0 ?_ (by assumption) | refine Chg.extS ?_ _ | refine Chg.alloc ?_ _ | refine Chg.drew ?_ | refine Chg.setCellE ?_ ?_ _ | refine le_addk ?_ _ | refine le_ext ?_ | refine le_alloc ?_ _ | refine le_setC ?_ _ _ | refine le_drew ?_ | assumption | (refine Nat.le_of_lt ?_; omega) | omega)))⟩
      · have e := Hj.out
        rw [jroot_step hlt, if_pos (by simpa using ‹(xs[k] == -1) = true›), if_neg (by omega)] at e
        exact ⟨⟨k + 1, k, by go_num, rfl, by omega, e⟩, by simp [intOf]; omega⟩
      · have e := Hj.out
        rw [jroot_step hlt, if_neg (by simpa using ‹(xs[k] == -1) = false›)] at e
        exact ⟨⟨k + 1, root, by go_num, rfl, by omega, e⟩, by simp [intOf]; omega⟩
    · go_wp2
      go_ret
      have e := Hj.out
      rw [List.drop_eq_nil_of_le (by omega)] at e
      exact ⟨by rw [← e]; rfl, (by refine Chg.isExt (F := []) ?_ (refl_ext _) (by simp); repeat (with_reducible (first | exact Chg.refl _ _ | exact Nat.le_refl _ | exact Chg.ofExt (by assumption) | refine Chg.trans0 ?_ (by assumption) | refine Chg.extS ?_ _ | refine Chg.alloc ?_ _ | refine Chg.drew ?_ | refine Chg.setCellE ?_ ?_ _ | refine le_addk ?_ _ | refine le_ext ?_ | refine le_alloc ?_ _ | refine le_setC ?_ _ _ | refine le_drew ?_ | assumption | (refine Nat.le_of_lt ?_; omega) | omega)))⟩

/-! the children -/
def chl (k : Nat) (n : Int) : List Int → List Int
  | [] => []
  | p :: ps => if p = n ∧ 0 ≤ n then (k : Int) :: chl (k + 1) n ps else chl (k + 1) n ps
theorem chl_step {i k : Nat} {n : Int} {xs : List Int} (h : k < xs.length) : chl i n (xs.drop k) = if xs[k] = n ∧ 0 ≤ n then (i : Int) :: chl (i + 1) n (xs.drop (k + 1)) else chl (i + 1) n (xs.drop (k + 1)) := by
  rw [List.drop_eq_getElem_cons h]; rfl
theorem chl_length (n : Int) : ∀ (k : Nat) (xs : List Int), (chl k n xs).length ≤ xs.length
  | _, [] => by simp [chl]
  | k, x :: xs => by
    have := chl_length n (k + 1) xs
    unfold chl
    split <;> simp <;> omega

end Go.Proofs.Ytoffbconbgipjaa
