/- Contracts on join forests: the laws' helpers, the root, the children. -/
import Derived.Test.YtjblggoekfmfpaaInts
namespace Go.Proofs.Ytjblggoekfmfpaa
open Go.RowKit

theorem szJoinForest_any {A : Option Addr} {n c : Nat} {left : Int} {w : World} (hn : n ≤ 9223372036854775807) (h1 : 0 ≤ left) (h2 : left ≤ 1000000000) :
    Calls Try.prog 17 #[.agg #[.slice A n c], .int .i64 left] w fun e w' => e = .returned (.int .i64 (szL left n)) ∧ ∃ y, w' = ext w y := by
  by_cases h : szL left n < 0
  · have e : szL left n = -1 := by unfold szL at h ⊢; split <;> simp_all
    go_enter Try.func17, Try.ntmps17
    go_wp2_with (go_at_call 42; refine (szIntS_any hn h1 h2).mono ?_; rintro e w' ⟨rfl, rfl⟩)
    go_ret
    exact ⟨by rw [e]; rfl, alloc_ext _ _⟩
  · go_enter Try.func17, Try.ntmps17
    go_wp2_with (go_at_call 42; refine (szIntS_any hn h1 h2).mono ?_; rintro e w' ⟨rfl, rfl⟩)
    go_ret
    exact ⟨rfl, alloc_ext _ _⟩

theorem toJoinForest_any {A : Option Addr} {c : Nat} {xs : List Int} {w : World} (hx : xs.length ≤ 1048576) (h1 : RI w A xs) :
    Calls Try.prog 19 #[.agg #[.slice A xs.length c]] w fun e w' => ∃ v F, e = .returned (.agg #[v]) ∧ (∃ y, w' = ext w y) ∧ SV 3 1 sI w' v xs F ∧ ∀ b ∈ F, w.heap.size ≤ b := by
  go_enter Try.func19, Try.ntmps19
  go_wp2_with (go_at_call 43; refine (toIntS_any hx ?_).mono ?_)
  · exact h1.toExt (by refine Chg.isExt (F := []) ?_ (refl_ext _) (by simp); repeat (with_reducible (first | exact Chg.refl _ _ | exact Nat.le_refl _ | refine Chg.extS ?_ _ | refine Chg.alloc ?_ _ | refine Chg.drew ?_ | refine Chg.setCellE ?_ ?_ _ | refine le_addk ?_ _ | refine le_ext ?_ | refine le_alloc ?_ _ | refine le_setC ?_ _ _ | refine le_drew ?_ | assumption)))
  · rintro e w1 ⟨v, F, rfl, ⟨y, rfl⟩, hS, hF⟩
    obtain ⟨A', cap, rfl, hcap, _⟩ := hS.form
    go_wp2
    have hF' : ∀ b ∈ F, w.heap.size + 3 ≤ b := by simpa using hF
    exact bodyPost_ret (v := .agg #[.slice A' xs.length cap]) (by simp [results, Try.results19, go_sem]) rfl ⟨_, F, rfl, (by refine Chg.isExt (F := []) ?_ (refl_ext _) (by simp); repeat (with_reducible (first | exact Chg.refl _ _ | exact Nat.le_refl _ | refine Chg.extS ?_ _ | refine Chg.alloc ?_ _ | refine Chg.drew ?_ | refine Chg.setCellE ?_ ?_ _ | refine le_addk ?_ _ | refine le_ext ?_ | refine le_alloc ?_ _ | refine le_setC ?_ _ _ | refine le_drew ?_ | assumption))), (hS.setC hF' (by omega) _).setC hF' (by omega) _, fun b hb => by have := hF' b hb; omega⟩

theorem eqJoinForest_any {A A' : Option Addr} {c c' : Nat} {xs ys : List Int} {w : World} (hx : xs.length ≤ 1000000000) (h1 : RI w A xs) (hy : ys.length ≤ 1000000000) (h2 : RI w A' ys) :
    Calls Try.prog 21 #[.agg #[.slice A xs.length c], .agg #[.slice A' ys.length c']] w fun e w' => e = .returned (.bool (decide (xs = ys))) ∧ ∃ y, w' = ext w y := by
  by_cases h : decide (xs = ys) = true
  all_goals
    go_enter Try.func21, Try.ntmps21
    go_wp2_with (go_at_call 29; refine (eqIntS_any hx (h1.toExt (by refine Chg.isExt (F := []) ?_ (refl_ext _) (by simp); repeat (with_reducible (first | exact Chg.refl _ _ | exact Nat.le_refl _ | refine Chg.extS ?_ _ | refine Chg.alloc ?_ _ | refine Chg.drew ?_ | refine Chg.setCellE ?_ ?_ _ | refine le_addk ?_ _ | refine le_ext ?_ | refine le_alloc ?_ _ | refine le_setC ?_ _ _ | refine le_drew ?_ | assumption)))) hy (h2.toExt (by refine Chg.isExt (F := []) ?_ (refl_ext _) (by simp); repeat (with_reducible (first | exact Chg.refl _ _ | exact Nat.le_refl _ | refine Chg.extS ?_ _ | refine Chg.alloc ?_ _ | refine Chg.drew ?_ | refine Chg.setCellE ?_ ?_ _ | refine le_addk ?_ _ | refine le_ext ?_ | refine le_alloc ?_ _ | refine le_setC ?_ _ _ | refine le_drew ?_ | assumption))))).mono ?_; rintro e w' ⟨rfl, y, rfl⟩)
    go_ret
    exact ⟨by simp [h], (by refine Chg.isExt (F := []) ?_ (refl_ext _) (by simp); repeat (with_reducible (first | exact Chg.refl _ _ | exact Nat.le_refl _ | refine Chg.extS ?_ _ | refine Chg.alloc ?_ _ | refine Chg.drew ?_ | refine Chg.setCellE ?_ ?_ _ | refine le_addk ?_ _ | refine le_ext ?_ | refine le_alloc ?_ _ | refine le_setC ?_ _ _ | refine le_drew ?_ | assumption)))⟩
theorem markJoinForest_any {v : Value} {xs : List Int} {F : List Nat} {k0 : Int} {w : World} (hx : xs.length ≤ 1000000000) (hS : SV 3 1 sI w v xs F) (h0 : 0 ≤ k0) (hk0 : k0 ≤ 100000000000) :
    Calls Try.prog 30 #[.agg #[v], .int .i64 k0] w fun e w' => e = .returned (.int .i64 (k0 + xs.length)) ∧ SV 3 1 sI w' v (marks k0 xs.length) F ∧ Chg F w w' := by
  obtain ⟨A, cap, rfl, _, _⟩ := hS.form
  go_enter Try.func30, Try.ntmps30
  go_wp2_with (go_at_call 31; refine (markIntS_any hx (hS.allocO _) h0 hk0).mono ?_; rintro e w' ⟨rfl, hS', hC⟩)
  go_ret
  exact ⟨rfl, hS', ((Chg.refl F w).alloc _).trans hC fun x h => .inl h⟩

/-! the root -/
def jroot (i : Nat) (root : Int) : List Int → Int
  | [] => root
  | p :: ps => if p = -1 then (if 0 ≤ root then -1 else jroot (i + 1) i ps) else jroot (i + 1) root ps
theorem jroot_step {i k : Nat} {root : Int} {xs : List Int} (h : k < xs.length) : jroot i root (xs.drop k) = if xs[k] = -1 then (if 0 ≤ root then -1 else jroot (i + 1) i (xs.drop (k + 1))) else jroot (i + 1) root (xs.drop (k + 1)) := by
  rw [List.drop_eq_getElem_cons h]; rfl

set_option maxHeartbeats 400000 in
theorem JoinTreeRoot_any {A : Option Addr} {c : Nat} {xs : List Int} {w : World} (hx : xs.length ≤ 1000000000) (h1 : RI w A xs) :
    Calls Try.prog 20 #[.agg #[.slice A xs.length c]] w fun e w' => e = .returned (.int .i64 (jroot 0 (-1) xs)) ∧ ∃ y, w' = ext w y := by
  go_enter Try.func20, Try.ntmps20
  go_wp2
  go_loop [3, 9] (fun r i => ∃ (k : Nat) (root : Int), i = .int .i64 k ∧ r = .int .i64 root ∧ k ≤ xs.length ∧ jroot k root (xs.drop k) = jroot 0 (-1) xs) (fun _ i => xs.length - (intOf i).toNat)
  case atStart => exact ⟨0, -1, rfl, rfl, by omega, by simp⟩
  case round =>
    obtain ⟨k, root, rfl, rfl, hk, hj⟩ := hrel
    have Hj := Lib.hid hj
    clear hj
    by_cases hlt : k < xs.length
    · obtain ⟨b, o, rfl, hb, hc⟩ := h1.atI hlt
      go_wp2
      · have e := Hj.out
        rw [jroot_step hlt, if_neg (by simpa using ‹(xs[k] != -1) = true›)] at e
        exact ⟨⟨k + 1, root, by go_num, rfl, by omega, e⟩, by simp [intOf]; omega⟩
      · have e := Hj.out
        rw [jroot_step hlt, if_pos (by simpa using ‹(xs[k] != -1) = false›), if_pos ‹0 ≤ root›] at e
        go_ret
        exact ⟨by rw [← e]; rfl, (by refine Chg.isExt (F := []) ?_ (refl_ext _) (by simp); repeat (with_reducible (first | exact Chg.refl _ _ | exact Nat.le_refl _ | refine Chg.extS ?_ _ | refine Chg.alloc ?_ _ | refine Chg.drew ?_ | refine Chg.setCellE ?_ ?_ _ | refine le_addk ?_ _ | refine le_ext ?_ | refine le_alloc ?_ _ | refine le_setC ?_ _ _ | refine le_drew ?_ | assumption)))⟩
      · have e := Hj.out
        rw [jroot_step hlt, if_pos (by simpa using ‹(xs[k] != -1) = false›), if_neg (by omega)] at e
        exact ⟨⟨k + 1, k, by go_num, rfl, by omega, e⟩, by simp [intOf]; omega⟩
    · go_wp2
      go_ret
      have e := Hj.out
      rw [List.drop_eq_nil_of_le (by omega)] at e
      exact ⟨by rw [← e]; rfl, (by refine Chg.isExt (F := []) ?_ (refl_ext _) (by simp); repeat (with_reducible (first | exact Chg.refl _ _ | exact Nat.le_refl _ | refine Chg.extS ?_ _ | refine Chg.alloc ?_ _ | refine Chg.drew ?_ | refine Chg.setCellE ?_ ?_ _ | refine le_addk ?_ _ | refine le_ext ?_ | refine le_alloc ?_ _ | refine le_setC ?_ _ _ | refine le_drew ?_ | assumption)))⟩

set_option maxHeartbeats 400000 in
theorem specJoinTreeRoot_any {A : Option Addr} {c : Nat} {xs : List Int} {w : World} (hx : xs.length ≤ 1000000000) (h1 : RI w A xs) :
    Calls Try.prog 18 #[.agg #[.slice A xs.length c]] w fun e w' => e = .returned (.int .i64 (jroot 0 (-1) xs)) ∧ ∃ y, w' = ext w y := by
  go_enter Try.func18, Try.ntmps18
  go_wp2
  go_loop [3, 4] (fun r i => ∃ (k : Nat) (root : Int), i = .int .i64 k ∧ r = .int .i64 root ∧ k ≤ xs.length ∧ jroot k root (xs.drop k) = jroot 0 (-1) xs) (fun _ i => xs.length - (intOf i).toNat)
  case atStart => exact ⟨0, -1, rfl, rfl, by omega, by simp⟩
  case round =>
    obtain ⟨k, root, rfl, rfl, hk, hj⟩ := hrel
    have Hj := Lib.hid hj
    clear hj
    by_cases hlt : k < xs.length
    · obtain ⟨b, o, rfl, hb, hc⟩ := h1.atI hlt
      go_wp2
      · have e := Hj.out
        rw [jroot_step hlt, if_pos (by simpa using ‹(xs[k] == -1) = true›), if_pos ‹0 ≤ root›] at e
        go_ret
        exact ⟨by rw [← e]; rfl, (by refine Chg.isExt (F := []) ?_ (refl_ext _) (by simp); repeat (with_reducible (first | exact Chg.refl _ _ | exact Nat.le_refl _ | refine Chg.extS ?_ _ | refine Chg.alloc ?_ _ | refine Chg.drew ?_ | refine Chg.setCellE ?_ ?_ _ | refine le_addk ?_ _ | refine le_ext ?_ | refine le_alloc ?_ _ | refine le_setC ?_ _ _ | refine le_drew ?_ | assumption)))⟩
      · have e := Hj.out
        rw [jroot_step hlt, if_pos (by simpa using ‹(xs[k] == -1) = true›), if_neg (by omega)] at e
        exact ⟨⟨k + 1, k, by go_num, rfl, by omega, e⟩, by simp [intOf]; omega⟩
      · have e := Hj.out
        rw [jroot_step hlt, if_neg (by simpa using ‹(xs[k] == -1) = false›)] at e
        exact ⟨⟨k + 1, root, by go_num, rfl, by omega, e⟩, by simp [intOf]; omega⟩
    · go_wp2
      go_ret
      have e := Hj.out
      rw [List.drop_eq_nil_of_le (by omega)] at e
      exact ⟨by rw [← e]; rfl, (by refine Chg.isExt (F := []) ?_ (refl_ext _) (by simp); repeat (with_reducible (first | exact Chg.refl _ _ | exact Nat.le_refl _ | refine Chg.extS ?_ _ | refine Chg.alloc ?_ _ | refine Chg.drew ?_ | refine Chg.setCellE ?_ ?_ _ | refine le_addk ?_ _ | refine le_ext ?_ | refine le_alloc ?_ _ | refine le_setC ?_ _ _ | refine le_drew ?_ | assumption)))⟩

/-! the children -/
def chl (k : Nat) (n : Int) : List Int → List Int
  | [] => []
  | p :: ps => if p = n ∧ 0 ≤ n then (k : Int) :: chl (k + 1) n ps else chl (k + 1) n ps
theorem chl_step {i k : Nat} {n : Int} {xs : List Int} (h : k < xs.length) : chl i n (xs.drop k) = if xs[k] = n ∧ 0 ≤ n then (i : Int) :: chl (i + 1) n (xs.drop (k + 1)) else chl (i + 1) n (xs.drop (k + 1)) := by
  rw [List.drop_eq_getElem_cons h]; rfl
theorem chl_length (n : Int) : ∀ (k : Nat) (xs : List Int), (chl k n xs).length ≤ xs.length
  | _, [] => by simp [chl]
  | k, x :: xs => by
    have := chl_length n (k + 1) xs
    unfold chl
    split <;> simp <;> omega

set_option maxHeartbeats 400000 in
theorem JoinTreeChildren_any {A : Option Addr} {c : Nat} {xs : List Int} {n : Int} {w : World} (hx : xs.length ≤ 1000000000) (h1 : RI w A xs) :
    Calls Try.prog 28 #[.agg #[.slice A xs.length c], .int .i64 n] w fun e w' => ∃ v F, e = .returned v ∧ (∃ y, w' = ext w y) ∧ SV 3 1 sI w' v (chl 0 n xs) F ∧ ∀ b ∈ F, w.heap.size ≤ b := by
  go_enter Try.func28, Try.ntmps28
  go_wp2
  refine wp_name ?_
  intro W hW
  have xW : ∃ y, W = ext w y := by rw [hW.out]; exact (by refine Chg.isExt (F := []) ?_ (refl_ext _) (by simp); repeat (with_reducible (first | exact Chg.refl _ _ | exact Nat.le_refl _ | refine Chg.extS ?_ _ | refine Chg.alloc ?_ _ | refine Chg.drew ?_ | refine Chg.setCellE ?_ ?_ _ | refine le_addk ?_ _ | refine le_ext ?_ | refine le_alloc ?_ _ | refine le_setC ?_ _ _ | refine le_drew ?_ | assumption)))
  have BW0 : BoxAt W (w.heap.size) #[.slice A xs.length c] := by rw [hW.out]; refine ⟨?_, fun j => ?_⟩ <;> go_simp
  obtain ⟨lW0, bW0⟩ := BW0
  clear hW
  have h1 := h1.toExt xW
  go_loopw [5, 11] (fun v i wr => ∃ (k : Nat) (ds : List Int) (F : List Nat), i = .int .i64 k ∧ k ≤ xs.length ∧ SV 3 1 sI wr v ds F ∧ (∀ b ∈ F, W.heap.size ≤ b) ∧ (∃ y, wr = ext W y) ∧ ds.length ≤ k ∧ ds ++ chl k n (xs.drop k) = chl 0 n xs) (fun _ i _ => xs.length - (intOf i).toNat)
  case atStart => exact ⟨0, [], [], rfl, by omega, SV.nil, by simp, refl_ext W, by simp, by simp⟩
  case round =>
    obtain ⟨k, ds, F, rfl, hk, hS, hF, ⟨y, rfl⟩, hl, hj⟩ := hrel
    have HF := Lib.hid hF
    by_cases hlt : k < xs.length
    · obtain ⟨b, o, rfl, hb, hc⟩ := h1.atI hlt
      rw [chl_step hlt] at hj
      by_cases hp : xs[k] = n ∧ 0 ≤ n
      · rw [if_pos hp] at hj
        have Hj := Lib.hid hj
        have hp1 : (xs[k] == n) = true := by simp [hp.1]
        have hp2 := hp.2
        clear hj hF hp
        go_wp2_with (at_builtin; refine wpList_appI _ rfl _ _ _ rfl tI rfl rfl rfl hS (by omega) (by omega) ?_; intro v' w' F' hS2 hC2 hF2)
        exact ⟨⟨k + 1, ds ++ [(k : Int)], F', by go_num, by omega, hS2, newer HF.out size_ext hF2, hC2.isExt ⟨_, rfl⟩ HF.out, by simp; omega, by simpa using Hj.out⟩, by simp [intOf]; omega⟩
      · rw [if_neg hp] at hj
        have Hj := Lib.hid hj
        clear hj hF
        by_cases hp1 : xs[k] = n
        · have hp2 : n < 0 := by omega
          have hp3 : (xs[k] == n) = true := by simp [hp1]
          clear hp hp1
          go_wp2
          exact ⟨⟨k + 1, ds, F, by go_num, by omega, hS, HF.out, ⟨_, rfl⟩, by omega, Hj.out⟩, by simp [intOf]; omega⟩
        · have hp3 : (xs[k] == n) = false := by simp [hp1]
          clear hp hp1
          go_wp2
          exact ⟨⟨k + 1, ds, F, by go_num, by omega, hS, HF.out, ⟨_, rfl⟩, by omega, Hj.out⟩, by simp [intOf]; omega⟩
    · rw [List.drop_eq_nil_of_le (by omega), chl, List.append_nil] at hj
      have Hj := Lib.hid hj
      clear hj hF
      go_wp2
      go_ret
      exact ⟨_, F, rfl, trans_ext xW ⟨_, rfl⟩, by rw [← Hj.out]; exact hS, fun b hb => Nat.le_trans (size_of_ext xW) (HF.out b hb)⟩

set_option maxHeartbeats 400000 in
theorem specJoinTreeChildren_any {A : Option Addr} {c : Nat} {xs : List Int} {n : Int} {w : World} (hx : xs.length ≤ 1000000000) (h1 : RI w A xs) :
    Calls Try.prog 27 #[.agg #[.slice A xs.length c], .int .i64 n] w fun e w' => ∃ v F, e = .returned v ∧ (∃ y, w' = ext w y) ∧ SV 3 1 sI w' v (chl 0 n xs) F ∧ ∀ b ∈ F, w.heap.size ≤ b := by
  go_enter Try.func27, Try.ntmps27
  go_upto_region 1 with fail
  refine wp_name ?_
  intro W hW
  have xW : ∃ y, W = ext w y := by rw [hW.out]; exact (by refine Chg.isExt (F := []) ?_ (refl_ext _) (by simp); repeat (with_reducible (first | exact Chg.refl _ _ | exact Nat.le_refl _ | refine Chg.extS ?_ _ | refine Chg.alloc ?_ _ | refine Chg.drew ?_ | refine Chg.setCellE ?_ ?_ _ | refine le_addk ?_ _ | refine le_ext ?_ | refine le_alloc ?_ _ | refine le_setC ?_ _ _ | refine le_drew ?_ | assumption)))
  have BW0 : BoxAt W (w.heap.size) #[.slice A xs.length c] := by rw [hW.out]; refine ⟨?_, fun j => ?_⟩ <;> go_simp
  obtain ⟨lW0, bW0⟩ := BW0
  clear hW
  have h1 := h1.toExt xW
  go_wp2
  go_loopw [5, 6] (fun v i wr => ∃ (k : Nat) (ds : List Int) (F : List Nat), i = .int .i64 k ∧ k ≤ xs.length ∧ SV 3 1 sI wr v ds F ∧ (∀ b ∈ F, W.heap.size ≤ b) ∧ (∃ y, wr = ext W y) ∧ ds.length ≤ k ∧ ds ++ chl k n (xs.drop k) = chl 0 n xs) (fun _ i _ => xs.length - (intOf i).toNat)
  case atStart => exact ⟨0, [], [W.heap.size], rfl, by omega, SV.empty W, by simp, alloc_ext _ _, by simp, by simp⟩
  case round =>
    obtain ⟨k, ds, F, rfl, hk, hS, hF, ⟨y, rfl⟩, hl, hj⟩ := hrel
    have HF := Lib.hid hF
    by_cases hlt : k < xs.length
    · obtain ⟨b, o, rfl, hb, hc⟩ := h1.atI hlt
      rw [chl_step hlt] at hj
      by_cases hp : xs[k] = n ∧ 0 ≤ n
      · rw [if_pos hp] at hj
        have Hj := Lib.hid hj
        have hp1 : (xs[k] == n) = true := by simp [hp.1]
        have hp2 := hp.2
        clear hj hF hp
        go_wp2_with (at_builtin; refine wpList_appI _ rfl _ _ _ rfl tI rfl rfl rfl hS (by omega) (by omega) ?_; intro v' w' F' hS2 hC2 hF2)
        exact ⟨⟨k + 1, ds ++ [(k : Int)], F', by go_num, by omega, hS2, newer HF.out size_ext hF2, hC2.isExt ⟨_, rfl⟩ HF.out, by simp; omega, by simpa using Hj.out⟩, by simp [intOf]; omega⟩
      · rw [if_neg hp] at hj
        have Hj := Lib.hid hj
        clear hj hF
        by_cases hp1 : xs[k] = n
        · have hp2 : n < 0 := by omega
          have hp3 : (xs[k] == n) = true := by simp [hp1]
          clear hp hp1
          go_wp2
          exact ⟨⟨k + 1, ds, F, by go_num, by omega, hS, HF.out, ⟨_, rfl⟩, by omega, Hj.out⟩, by simp [intOf]; omega⟩
        · have hp3 : (xs[k] == n) = false := by simp [hp1]
          clear hp hp1
          go_wp2
          exact ⟨⟨k + 1, ds, F, by go_num, by omega, hS, HF.out, ⟨_, rfl⟩, by omega, Hj.out⟩, by simp [intOf]; omega⟩
    · rw [List.drop_eq_nil_of_le (by omega), chl, List.append_nil] at hj
      have Hj := Lib.hid hj
      clear hj hF
      go_wp2
      go_ret
      exact ⟨_, F, rfl, trans_ext xW ⟨_, rfl⟩, by rw [← Hj.out]; exact hS, fun b hb => Nat.le_trans (size_of_ext xW) (HF.out b hb)⟩

end Go.Proofs.Ytjblggoekfmfpaa
