/- Contracts of functions that the statement reaches. -/
import Derived.Test.YtfigcfajkilhiaaGreatE16
import Derived.Test.YtfigcfajkilhiaaGreatE18
import Derived.Test.YtfigcfajkilhiaaGreatE17
import Derived.Test.YtfigcfajkilhiaaGreatE01
import Derived.Test.YtfigcfajkilhiaaGreatE02
import Derived.Test.YtfigcfajkilhiaaGreatE04
import Derived.Test.YtfigcfajkilhiaaGreatE08
import Derived.Test.YtfigcfajkilhiaaGreatE07
namespace Go.Proofs.YtfigcfajkilhiaaGreat
open Go.RowKit
theorem allB_row {d : Dbd} {q : Qd} (h : QOk d q) {z : List Int} (hz : z ∈ allB d q) : (z.length : Int) = q.1 ∧ rowV z = true := by
  obtain ⟨g, rfl, hg⟩ := (allB_g h).1 hz
  have := h.n1
  refine ⟨by simp [idV]; omega, rowV_iff.2 fun x hx => ?_⟩
  obtain ⟨v, hv, rfl⟩ := List.mem_map.1 hx
  rw [mem_idV] at hv
  obtain ⟨a, ha, hva⟩ := h.cov v hv.1 hv.2
  have hr := (rowsB_iff.1 (atFit_some (h.fit a ha)).2.1.rel).2.2.2.1 _ (hg a ha)
  exact rowV_iff.1 hr.2 _ (List.mem_map.2 ⟨v, hva, rfl⟩)
def evalR (d : Dbd) (q : Qd) : Option Rd := match bindR d q with | some r => projR r q.2.2 | none => none
end Go.Proofs.YtfigcfajkilhiaaGreat
namespace Go.Proofs.YtfigcfajkilhiaaGreat
open Go.RowKit
theorem szJoinForest_any {A : Option Addr} {n c : Nat} {left : Int} {w : World} (hn : n ≤ 9223372036854775807) (h1 : 0 ≤ left) (h2 : left ≤ 1000000000) :
    Calls Tryz.prog 7 #[.agg #[.slice A n c], .int .i64 left] w fun e w' => e = .returned (.int .i64 (szL left n)) ∧ ∃ y, w' = ext w y := by
  by_cases h : szL left n < 0
  · have e : szL left n = -1 := by unfold szL at h ⊢; split <;> simp_all
    go_enter Tryz.func7, Tryz.ntmps7
    go_wp2_with (go_at_call 29; refine (szIntS_any hn h1 h2).mono ?_; rintro e w' ⟨rfl, rfl⟩)
    go_ret
    exact ⟨by rw [e]; rfl, alloc_ext _ _⟩
  · go_enter Tryz.func7, Tryz.ntmps7
    go_wp2_with (go_at_call 29; refine (szIntS_any hn h1 h2).mono ?_; rintro e w' ⟨rfl, rfl⟩)
    go_ret
    exact ⟨rfl, alloc_ext _ _⟩
theorem toJoinForest_any {A : Option Addr} {c : Nat} {xs : List Int} {w : World} (hx : xs.length ≤ 1048576) (h1 : RI w A xs) :
    Calls Tryz.prog 11 #[.agg #[.slice A xs.length c]] w fun e w' => ∃ v F, e = .returned (.agg #[v]) ∧ (∃ y, w' = ext w y) ∧ SV 3 1 sI w' v xs F ∧ ∀ b ∈ F, w.heap.size ≤ b := by
  go_enter Tryz.func11, Tryz.ntmps11
  go_wp2_with (go_at_call 38; refine (toIntS_any hx ?_).mono ?_)
  · exact h1.toExt (by refine x'z ?_; repeat (with_reducible (first | exact x'a _ _ | exact x'b _ | exact x'c (by assumption) | refine x'd ?_ (by assumption) | refine x'e ?_ _ | refine x'f ?_ _ | refine x'g ?_ | refine x'h ?_ ?_ _ | refine x'i ?_ _ | refine x'j ?_ | refine x'k ?_ _ | refine x'l ?_ _ _ | refine x'm ?_ | assumption | (refine x'n ?_; omega) | omega)))
  · rintro e w1 ⟨v, F, rfl, ⟨y, rfl⟩, hS, hF⟩
    obtain ⟨A', cap, rfl, hcap, _⟩ := hS.form
    go_wp2
    have hF' : ∀ b ∈ F, w.heap.size + 3 ≤ b := by simpa using hF
    exact bodyPost_ret (v := .agg #[.slice A' xs.length cap]) (by simp [results, Tryz.results11, go_sem]) rfl ⟨_, F, rfl, (by refine x'z ?_; repeat (with_reducible (first | exact x'a _ _ | exact x'b _ | exact x'c (by assumption) | refine x'd ?_ (by assumption) | refine x'e ?_ _ | refine x'f ?_ _ | refine x'g ?_ | refine x'h ?_ ?_ _ | refine x'i ?_ _ | refine x'j ?_ | refine x'k ?_ _ | refine x'l ?_ _ _ | refine x'm ?_ | assumption | (refine x'n ?_; omega) | omega))), (hS.setC hF' (by omega) _).setC hF' (by omega) _, fun b hb => by have := hF' b hb; omega⟩
theorem eqJoinForest_any {A A' : Option Addr} {c c' : Nat} {xs ys : List Int} {w : World} (hx : xs.length ≤ 1000000000) (h1 : RI w A xs) (hy : ys.length ≤ 1000000000) (h2 : RI w A' ys) :
    Calls Tryz.prog 16 #[.agg #[.slice A xs.length c], .agg #[.slice A' ys.length c']] w fun e w' => e = .returned (.bool (decide (xs = ys))) ∧ ∃ y, w' = ext w y := by
  by_cases h : decide (xs = ys) = true
  all_goals
    go_enter Tryz.func16, Tryz.ntmps16
    go_wp2_with (go_at_call 46; refine (eqIntS_any hx (h1.toExt (by refine x'z ?_; repeat (with_reducible (first | exact x'a _ _ | exact x'b _ | exact x'c (by assumption) | refine x'd ?_ (by assumption) | refine x'e ?_ _ | refine x'f ?_ _ | refine x'g ?_ | refine x'h ?_ ?_ _ | refine x'i ?_ _ | refine x'j ?_ | refine x'k ?_ _ | refine x'l ?_ _ _ | refine x'm ?_ | assumption | (refine x'n ?_; omega) | omega)))) hy (h2.toExt (by refine x'z ?_; repeat (with_reducible (first | exact x'a _ _ | exact x'b _ | exact x'c (by assumption) | refine x'd ?_ (by assumption) | refine x'e ?_ _ | refine x'f ?_ _ | refine x'g ?_ | refine x'h ?_ ?_ _ | refine x'i ?_ _ | refine x'j ?_ | refine x'k ?_ _ | refine x'l ?_ _ _ | refine x'm ?_ | assumption | (refine x'n ?_; omega) | omega))))).mono ?_; rintro e w' ⟨rfl, y, rfl⟩)
    go_ret
    exact ⟨by simp [h], (by refine x'z ?_; repeat (with_reducible (first | exact x'a _ _ | exact x'b _ | exact x'c (by assumption) | refine x'd ?_ (by assumption) | refine x'e ?_ _ | refine x'f ?_ _ | refine x'g ?_ | refine x'h ?_ ?_ _ | refine x'i ?_ _ | refine x'j ?_ | refine x'k ?_ _ | refine x'l ?_ _ _ | refine x'm ?_ | assumption | (refine x'n ?_; omega) | omega)))⟩
theorem markJoinForest_any {v : Value} {xs : List Int} {F : List Nat} {k0 : Int} {w : World} (hx : xs.length ≤ 1000000000) (hS : SV 3 1 sI w v xs F) (h0 : 0 ≤ k0) (hk0 : k0 ≤ 100000000000) :
    Calls Tryz.prog 19 #[.agg #[v], .int .i64 k0] w fun e w' => e = .returned (.int .i64 (k0 + xs.length)) ∧ SV 3 1 sI w' v (marks k0 xs.length) F ∧ Chg F w w' := by
  obtain ⟨A, cap, rfl, _, _⟩ := hS.form
  go_enter Tryz.func19, Tryz.ntmps19
  go_wp2_with (go_at_call 49; refine (markIntS_any hx (hS.allocO _) h0 hk0).mono ?_; rintro e w' ⟨rfl, hS', hC⟩)
  go_ret
  exact ⟨rfl, hS', ((Chg.refl F w).alloc _).trans hC fun x h => .inl h⟩
def jroot (i : Nat) (root : Int) : List Int → Int
  | [] => root
  | p :: ps => if p = -1 then (if 0 ≤ root then -1 else jroot (i + 1) i ps) else jroot (i + 1) root ps
theorem jroot_step {i k : Nat} {root : Int} {xs : List Int} (h : k < xs.length) : jroot i root (xs.drop k) = if xs[k] = -1 then (if 0 ≤ root then -1 else jroot (i + 1) i (xs.drop (k + 1))) else jroot (i + 1) root (xs.drop (k + 1)) := by
  rw [List.drop_eq_getElem_cons h]; rfl
set_option maxHeartbeats 400000 in
theorem JoinTreeRoot_any {A : Option Addr} {c : Nat} {xs : List Int} {w : World} (hx : xs.length ≤ 1000000000) (h1 : RI w A xs) :
    Calls Tryz.prog 58 #[.agg #[.slice A xs.length c]] w fun e w' => e = .returned (.int .i64 (jroot 0 (-1) xs)) ∧ ∃ y, w' = ext w y := by
  go_enter Tryz.func58, Tryz.ntmps58
  go_wp2
  go_loop [3, 9] (fun r i => ∃ (k : Nat) (root : Int), i = .int .i64 k ∧ r = .int .i64 root ∧ k ≤ xs.length ∧ jroot k root (xs.drop k) = jroot 0 (-1) xs) (fun _ i => xs.length - (intOf i).toNat)
  case atStart => exact ⟨0, -1, rfl, rfl, by omega, by simp⟩
  case round =>
    obtain ⟨k, root, rfl, rfl, hk, hj⟩ := hrel
    have Hj := Lib.hid hj
    clear hj
    by_cases hlt : k < xs.length
    · obtain ⟨b, o, rfl, hb, hc⟩ := h1.atI hlt
      go_wp2
      · have e := Hj.out
        rw [jroot_step hlt, if_neg (by simpa using ‹(xs[k] != -1) = true›)] at e
        exact ⟨⟨k + 1, root, by go_num, rfl, by omega, e⟩, by simp [intOf]; omega⟩
      · have e := Hj.out
        rw [jroot_step hlt, if_pos (by simpa using ‹(xs[k] != -1) = false›), if_pos ‹0 ≤ root›] at e
        go_ret
        exact ⟨by rw [← e]; rfl, (by refine x'z ?_; repeat (with_reducible (first | exact x'a _ _ | exact x'b _ | exact x'c (by assumption) | refine x'd ?_ (by assumption) | refine x'e ?_ _ | refine x'f ?_ _ | refine x'g ?_ | refine x'h ?_ ?_ _ | refine x'i ?_ _ | refine x'j ?_ | refine x'k ?_ _ | refine x'l ?_ _ _ | refine x'm ?_ | assumption | (refine x'n ?_; omega) | omega)))⟩
      · have e := Hj.out
        rw [jroot_step hlt, if_pos (by simpa using ‹(xs[k] != -1) = false›), if_neg (by omega)] at e
        exact ⟨⟨k + 1, k, by go_num, rfl, by omega, e⟩, by simp [intOf]; omega⟩
    · go_wp2
      go_ret
      have e := Hj.out
      rw [List.drop_eq_nil_of_le (by omega)] at e
      exact ⟨by rw [← e]; rfl, (by refine x'z ?_; repeat (with_reducible (first | exact x'a _ _ | exact x'b _ | exact x'c (by assumption) | refine x'd ?_ (by assumption) | refine x'e ?_ _ | refine x'f ?_ _ | refine x'g ?_ | refine x'h ?_ ?_ _ | refine x'i ?_ _ | refine x'j ?_ | refine x'k ?_ _ | refine x'l ?_ _ _ | refine x'm ?_ | assumption | (refine x'n ?_; omega) | omega)))⟩
set_option maxHeartbeats 400000 in
theorem specJoinTreeRoot_any {A : Option Addr} {c : Nat} {xs : List Int} {w : World} (hx : xs.length ≤ 1000000000) (h1 : RI w A xs) :
    Calls Tryz.prog 34 #[.agg #[.slice A xs.length c]] w fun e w' => e = .returned (.int .i64 (jroot 0 (-1) xs)) ∧ ∃ y, w' = ext w y := by
  go_enter Tryz.func34, Tryz.ntmps34
  go_wp2
  go_loop [3, 4] (fun r i => ∃ (k : Nat) (root : Int), i = .int .i64 k ∧ r = .int .i64 root ∧ k ≤ xs.length ∧ jroot k root (xs.drop k) = jroot 0 (-1) xs) (fun _ i => xs.length - (intOf i).toNat)
  case atStart => exact ⟨0, -1, rfl, rfl, by omega, by simp⟩
  case round =>
    obtain ⟨k, root, rfl, rfl, hk, hj⟩ := hrel
    have Hj := Lib.hid hj
    clear hj
    by_cases hlt : k < xs.length
    · obtain ⟨b, o, rfl, hb, hc⟩ := h1.atI hlt
      go_wp2
      · have e := Hj.out
        rw [jroot_step hlt, if_pos (by simpa using ‹(xs[k] == -1) = true›), if_pos ‹0 ≤ root›] at e
        go_ret
        exact ⟨by rw [← e]; rfl, (by refine x'z ?_; repeat (with_reducible (first | exact x'a _ _ | exact x'b _ | exact x'c (by assumption) | refine x'd ?_ (by assumption) | refine x'e ?_ _ | refine x'f ?_ _ | refine x'g ?_ | refine x'h ?_ ?_ _ | refine x'i ?_ _ | refine x'j ?_ | refine x'k ?_ _ | refine x'l ?_ _ _ | refine x'm ?_ | assumption | (refine x'n ?_; omega) | omega)))⟩
      · have e := Hj.out
        rw [jroot_step hlt, if_pos (by simpa using ‹(xs[k] == -1) = true›), if_neg (by omega)] at e
        exact ⟨⟨k + 1, k, by go_num, rfl, by omega, e⟩, by simp [intOf]; omega⟩
      · have e := Hj.out
        rw [jroot_step hlt, if_neg (by simpa using ‹(xs[k] == -1) = false›)] at e
        exact ⟨⟨k + 1, root, by go_num, rfl, by omega, e⟩, by simp [intOf]; omega⟩
    · go_wp2
      go_ret
      have e := Hj.out
      rw [List.drop_eq_nil_of_le (by omega)] at e
      exact ⟨by rw [← e]; rfl, (by refine x'z ?_; repeat (with_reducible (first | exact x'a _ _ | exact x'b _ | exact x'c (by assumption) | refine x'd ?_ (by assumption) | refine x'e ?_ _ | refine x'f ?_ _ | refine x'g ?_ | refine x'h ?_ ?_ _ | refine x'i ?_ _ | refine x'j ?_ | refine x'k ?_ _ | refine x'l ?_ _ _ | refine x'm ?_ | assumption | (refine x'n ?_; omega) | omega)))⟩
def chl (k : Nat) (n : Int) : List Int → List Int
  | [] => []
  | p :: ps => if p = n ∧ 0 ≤ n then (k : Int) :: chl (k + 1) n ps else chl (k + 1) n ps
theorem chl_step {i k : Nat} {n : Int} {xs : List Int} (h : k < xs.length) : chl i n (xs.drop k) = if xs[k] = n ∧ 0 ≤ n then (i : Int) :: chl (i + 1) n (xs.drop (k + 1)) else chl (i + 1) n (xs.drop (k + 1)) := by
  rw [List.drop_eq_getElem_cons h]; rfl
theorem chl_length (n : Int) : ∀ (k : Nat) (xs : List Int), (chl k n xs).length ≤ xs.length
  | _, [] => by simp [chl]
  | k, x :: xs => by
    have := chl_length n (k + 1) xs
    unfold chl
    split <;> simp <;> omega
set_option maxHeartbeats 400000 in
theorem JoinTreeChildren_any {A : Option Addr} {c : Nat} {xs : List Int} {n : Int} {w : World} (hx : xs.length ≤ 1000000000) (h1 : RI w A xs) :
    Calls Tryz.prog 55 #[.agg #[.slice A xs.length c], .int .i64 n] w fun e w' => ∃ v F, e = .returned v ∧ (∃ y, w' = ext w y) ∧ SV 3 1 sI w' v (chl 0 n xs) F ∧ ∀ b ∈ F, w.heap.size ≤ b := by
  go_enter Tryz.func55, Tryz.ntmps55
  go_wp2
  refine wp_name ?_
  intro W hW
  have xW : ∃ y, W = ext w y := by rw [hW.out]; exact (by refine x'z ?_; repeat (with_reducible (first | exact x'a _ _ | exact x'b _ | exact x'c (by assumption) | refine x'd ?_ (by assumption) | refine x'e ?_ _ | refine x'f ?_ _ | refine x'g ?_ | refine x'h ?_ ?_ _ | refine x'i ?_ _ | refine x'j ?_ | refine x'k ?_ _ | refine x'l ?_ _ _ | refine x'm ?_ | assumption | (refine x'n ?_; omega) | omega)))
  have BW0 : BoxAt W (w.heap.size) #[.slice A xs.length c] := by rw [hW.out]; refine ⟨?_, fun j => ?_, fun j => ?_⟩ <;> go_simp
  obtain ⟨lW0, bW0, fW0⟩ := BW0
  clear hW
  have h1 := h1.toExt xW
  go_loopw [5, 11] (fun v i wr => ∃ (k : Nat) (ds : List Int) (F : List Nat), i = .int .i64 k ∧ k ≤ xs.length ∧ SV 3 1 sI wr v ds F ∧ (∀ b ∈ F, W.heap.size ≤ b) ∧ (∃ y, wr = ext W y) ∧ ds.length ≤ k ∧ ds ++ chl k n (xs.drop k) = chl 0 n xs) (fun _ i _ => xs.length - (intOf i).toNat)
  case atStart => exact ⟨0, [], [], rfl, by omega, SV.nil, by simp, refl_ext W, by simp, by simp⟩
  case round =>
    obtain ⟨k, ds, F, rfl, hk, hS, hF, ⟨y, rfl⟩, hl, hj⟩ := hrel
    have HF := Lib.hid hF
    by_cases hlt : k < xs.length
    · obtain ⟨b, o, rfl, hb, hc⟩ := h1.atI hlt
      rw [chl_step hlt] at hj
      by_cases hp : xs[k] = n ∧ 0 ≤ n
      · rw [if_pos hp] at hj
        have Hj := Lib.hid hj
        have hp1 : (xs[k] == n) = true := by simp [hp.1]
        have hp2 := hp.2
        clear hj hF hp
        go_wp2_with (at_builtin; refine wpList_appI _ rfl _ _ _ rfl tI rfl rfl rfl hS (by omega) (by omega) ?_; intro v' w' F' hS2 hC2 hF2)
        exact ⟨⟨k + 1, ds ++ [(k : Int)], F', by go_num, by omega, hS2, newer HF.out size_ext hF2, hC2.isExt ⟨_, rfl⟩ HF.out, by simp; omega, by simpa using Hj.out⟩, by simp [intOf]; omega⟩
      · rw [if_neg hp] at hj
        have Hj := Lib.hid hj
        clear hj hF
        by_cases hp1 : xs[k] = n
        · have hp2 : n < 0 := by omega
          have hp3 : (xs[k] == n) = true := by simp [hp1]
          clear hp hp1
          go_wp2
          exact ⟨⟨k + 1, ds, F, by go_num, by omega, hS, HF.out, ⟨_, rfl⟩, by omega, Hj.out⟩, by simp [intOf]; omega⟩
        · have hp3 : (xs[k] == n) = false := by simp [hp1]
          clear hp hp1
          go_wp2
          exact ⟨⟨k + 1, ds, F, by go_num, by omega, hS, HF.out, ⟨_, rfl⟩, by omega, Hj.out⟩, by simp [intOf]; omega⟩
    · rw [List.drop_eq_nil_of_le (by omega), chl, List.append_nil] at hj
      have Hj := Lib.hid hj
      clear hj hF
      go_wp2
      go_ret
      exact ⟨_, F, rfl, trans_ext xW ⟨_, rfl⟩, by rw [← Hj.out]; exact hS, fun b hb => Nat.le_trans (size_of_ext xW) (HF.out b hb)⟩
set_option maxHeartbeats 400000 in
theorem specJoinTreeChildren_any {A : Option Addr} {c : Nat} {xs : List Int} {n : Int} {w : World} (hx : xs.length ≤ 1000000000) (h1 : RI w A xs) :
    Calls Tryz.prog 69 #[.agg #[.slice A xs.length c], .int .i64 n] w fun e w' => ∃ v F, e = .returned v ∧ (∃ y, w' = ext w y) ∧ SV 3 1 sI w' v (chl 0 n xs) F ∧ ∀ b ∈ F, w.heap.size ≤ b := by
  go_enter Tryz.func69, Tryz.ntmps69
  go_upto_region 1 with fail
  refine wp_name ?_
  intro W hW
  have xW : ∃ y, W = ext w y := by rw [hW.out]; exact (by refine x'z ?_; repeat (with_reducible (first | exact x'a _ _ | exact x'b _ | exact x'c (by assumption) | refine x'd ?_ (by assumption) | refine x'e ?_ _ | refine x'f ?_ _ | refine x'g ?_ | refine x'h ?_ ?_ _ | refine x'i ?_ _ | refine x'j ?_ | refine x'k ?_ _ | refine x'l ?_ _ _ | refine x'm ?_ | assumption | (refine x'n ?_; omega) | omega)))
  have BW0 : BoxAt W (w.heap.size) #[.slice A xs.length c] := by rw [hW.out]; refine ⟨?_, fun j => ?_, fun j => ?_⟩ <;> go_simp
  obtain ⟨lW0, bW0, fW0⟩ := BW0
  clear hW
  have h1 := h1.toExt xW
  go_wp2
  go_loopw [5, 6] (fun v i wr => ∃ (k : Nat) (ds : List Int) (F : List Nat), i = .int .i64 k ∧ k ≤ xs.length ∧ SV 3 1 sI wr v ds F ∧ (∀ b ∈ F, W.heap.size ≤ b) ∧ (∃ y, wr = ext W y) ∧ ds.length ≤ k ∧ ds ++ chl k n (xs.drop k) = chl 0 n xs) (fun _ i _ => xs.length - (intOf i).toNat)
  case atStart => exact ⟨0, [], [W.heap.size], rfl, by omega, SV.empty W, by simp, alloc_ext _ _, by simp, by simp⟩
  case round =>
    obtain ⟨k, ds, F, rfl, hk, hS, hF, ⟨y, rfl⟩, hl, hj⟩ := hrel
    have HF := Lib.hid hF
    by_cases hlt : k < xs.length
    · obtain ⟨b, o, rfl, hb, hc⟩ := h1.atI hlt
      rw [chl_step hlt] at hj
      by_cases hp : xs[k] = n ∧ 0 ≤ n
      · rw [if_pos hp] at hj
        have Hj := Lib.hid hj
        have hp1 : (xs[k] == n) = true := by simp [hp.1]
        have hp2 := hp.2
        clear hj hF hp
        go_wp2_with (at_builtin; refine wpList_appI _ rfl _ _ _ rfl tI rfl rfl rfl hS (by omega) (by omega) ?_; intro v' w' F' hS2 hC2 hF2)
        exact ⟨⟨k + 1, ds ++ [(k : Int)], F', by go_num, by omega, hS2, newer HF.out size_ext hF2, hC2.isExt ⟨_, rfl⟩ HF.out, by simp; omega, by simpa using Hj.out⟩, by simp [intOf]; omega⟩
      · rw [if_neg hp] at hj
        have Hj := Lib.hid hj
        clear hj hF
        by_cases hp1 : xs[k] = n
        · have hp2 : n < 0 := by omega
          have hp3 : (xs[k] == n) = true := by simp [hp1]
          clear hp hp1
          go_wp2
          exact ⟨⟨k + 1, ds, F, by go_num, by omega, hS, HF.out, ⟨_, rfl⟩, by omega, Hj.out⟩, by simp [intOf]; omega⟩
        · have hp3 : (xs[k] == n) = false := by simp [hp1]
          clear hp hp1
          go_wp2
          exact ⟨⟨k + 1, ds, F, by go_num, by omega, hS, HF.out, ⟨_, rfl⟩, by omega, Hj.out⟩, by simp [intOf]; omega⟩
    · rw [List.drop_eq_nil_of_le (by omega), chl, List.append_nil] at hj
      have Hj := Lib.hid hj
      clear hj hF
      go_wp2
      go_ret
      exact ⟨_, F, rfl, trans_ext xW ⟨_, rfl⟩, by rw [← Hj.out]; exact hS, fun b hb => Nat.le_trans (size_of_ext xW) (HF.out b hb)⟩
end Go.Proofs.YtfigcfajkilhiaaGreat
namespace Go.Proofs.YtfigcfajkilhiaaGreat
open Go.RowKit
def allF (p : Nat → Bool) : Nat → Nat → Bool
  | 0, _ => true
  | f + 1, k => p k && allF p f (k + 1)
def findF (p : Nat → Bool) : Nat → Nat → Option Nat
  | 0, _ => none
  | f + 1, k => if p k = true then some k else findF p f (k + 1)
theorem allF_step {p : Nat → Bool} {n k : Nat} (h : k < n) : allF p (n - k) k = (p k && allF p (n - (k + 1)) (k + 1)) := by
  rw [show n - k = (n - (k + 1)) + 1 by omega, allF]
theorem allF_end {p : Nat → Bool} {n k : Nat} (h : ¬ k < n) : allF p (n - k) k = true := by
  rw [show n - k = 0 by omega, allF]
theorem allF_iff {p : Nat → Bool} : ∀ (f k : Nat), allF p f k = true ↔ ∀ j, k ≤ j → j < k + f → p j = true
  | 0, k => by simp [allF]; omega
  | f + 1, k => by
    rw [allF, Bool.and_eq_true, allF_iff f (k + 1)]
    constructor
    · rintro ⟨h1, h2⟩ j hj hj2
      by_cases e : j = k
      · subst e; exact h1
      · exact h2 j (by omega) (by omega)
    · intro h
      exact ⟨h k (by omega) (by omega), fun j h1 h2 => h j (by omega) (by omega)⟩
def vof (ats : List At) (j : Nat) : List Int := (ats.getD j (⟨#[]⟩, [])).2
theorem vof_get {ats : List At} {j : Nat} (h : j < ats.length) : ats[j].2 = vof ats j := by
  unfold vof; rw [List.getD_eq_getElem?_getD, List.getElem?_eq_getElem h]; rfl
def blk (ats : List At) (gone : List Bool) (i : Nat) (v : Int) (j : Nat) : Bool := decide (j ≠ i) && !gone.getD j true && decide (v ∈ vof ats j)
def okV (ats : List At) (gone : List Bool) (i k : Nat) (v : Int) : Bool := allF (fun j => !blk ats gone i v j || decide (v ∈ vof ats k)) ats.length 0
def earOK (ats : List At) (gone : List Bool) (i k : Nat) : Bool := (vof ats i).all (okV ats gone i k)
def canK (ats : List At) (gone : List Bool) (i k : Nat) : Bool := decide (k ≠ i) && !gone.getD k true && earOK ats gone i k
def ear (ats : List At) (gone : List Bool) (i : Nat) : Option Nat := findF (canK ats gone i) ats.length 0
end Go.Proofs.YtfigcfajkilhiaaGreat
namespace Go.Proofs.YtfigcfajkilhiaaGreat
open Go.RowKit
def clB (ps : List Int) : Nat → Int → Bool
  | 0, a => decide (a < 0)
  | f + 1, a => if a < 0 then true else inB (ps.getD a.toNat 0) (-1) ((ps.length : Int) - 1) && clB ps f (ps.getD a.toNat 0)
def rootsG : Int → List Int → Int
  | r, [] => r
  | r, p :: ps => rootsG (if p < 0 then r + 1 else r) ps
def upB (ps : List Int) (i : Nat) : Bool := inB (ps.getD i 0) (-1) ((ps.length : Int) - 1) && clB ps (ps.length + 1) i
def treeB (ps : List Int) : Bool := allF (upB ps) ps.length 0 && decide (rootsG 0 ps = 1)
def pth (ps : List Int) : Nat → Int → List Int
  | 0, _ => []
  | f + 1, k => if inB k 0 ((ps.length : Int) - 1) = true then k :: pth ps f (ps.getD k.toNat 0) else []
def pathB (ps : List Int) (i : Nat) : Bool := decide ((pth ps (ps.length + 1) i).length ≤ ps.length) && decide ((pth ps (ps.length + 1) i).getD ((pth ps (ps.length + 1) i).length - 1) 0 = jroot 0 (-1) ps)
def treeS (ps : List Int) : Bool := decide (0 ≤ jroot 0 (-1) ps) && allF (pathB ps) ps.length 0
def allLists {α : Type} (al : List α) : Nat → List (List α)
  | 0 => [[]]
  | n + 1 => al.flatMap fun a => (allLists al n).map (a :: ·)
theorem mem_allLists {α : Type} {al : List α} : ∀ {l : List α}, (∀ x ∈ l, x ∈ al) → l ∈ allLists al l.length
  | [], _ => by simp [allLists]
  | x :: l, h => by
    have ih := mem_allLists (l := l) fun y hy => h y (by simp [hy])
    rw [List.length_cons, allLists, List.mem_flatMap]
    exact ⟨x, h x (by simp), List.mem_map.2 ⟨l, ih, rfl⟩⟩
def chkT (al : List Int) (n : Nat) : Bool := (allLists al n).all fun ps => treeB ps == treeS ps
theorem chkT1 : chkT [-1, 0] 1 = true := by decide +kernel
theorem chkT2 : chkT [-1, 0, 1] 2 = true := by decide +kernel
theorem chkT3 : chkT [-1, 0, 1, 2] 3 = true := by decide +kernel
theorem chkT4 : chkT [-1, 0, 1, 2, 3] 4 = true := by decide +kernel
theorem jroot_at : ∀ (xs : List Int) (i : Nat) (root : Int), 0 ≤ jroot i root xs → 0 ≤ root ∧ jroot i root xs = root ∧ (∀ x ∈ xs, x ≠ -1) ∨ root < 0 ∧ ∃ j, j < xs.length ∧ jroot i root xs = (i + j : Nat) ∧ xs.getD j 0 = -1
  | [], i, root, h => by
    exact .inl ⟨h, rfl, by simp⟩
  | x :: xs, i, root, h => by
    unfold jroot at h ⊢
    split at h
    · rename_i hx
      subst hx
      rw [if_pos rfl]
      split at h
      · omega
      · rename_i hr
        rw [if_neg hr]
        rcases jroot_at xs (i + 1) i h with ⟨h1, h2, h3⟩ | ⟨h1, _⟩
        · exact .inr ⟨by omega, 0, by simp, by rw [h2]; simp, rfl⟩
        · omega
    · rename_i hx
      rw [if_neg hx]
      rcases jroot_at xs (i + 1) root h with ⟨h1, h2, h3⟩ | ⟨h1, j, hj, h2, h3⟩
      · exact .inl ⟨h1, h2, fun y hy => by rcases List.mem_cons.1 hy with e | e; · rw [e]; exact hx
                                           · exact h3 y e⟩
      · exact .inr ⟨h1, j + 1, by simpa using hj, by rw [h2]; congr 1; omega, by simpa using h3⟩
theorem jroot_lo : ∀ (xs : List Int) (i : Nat) (root : Int), -1 ≤ root → -1 ≤ jroot i root xs
  | [], _, _, h => h
  | x :: xs, i, root, h => by
    unfold jroot
    split
    · split
      · omega
      · exact jroot_lo xs (i + 1) i (by omega)
    · exact jroot_lo xs (i + 1) root h
theorem out_false {ps : List Int} {i : Nat} (hi : i < ps.length) (h : ¬ (-1 ≤ ps.getD i 0 ∧ ps.getD i 0 ≤ (ps.length : Int) - 1)) : treeB ps = false ∧ treeS ps = false := by
  constructor
  · have : allF (upB ps) ps.length 0 = false := by
      rw [← Bool.not_eq_true, allF_iff]
      intro hc
      have := hc i (by omega) (by omega)
      unfold upB at this
      rw [Bool.and_eq_true] at this
      exact h (inB_t this.1)
    unfold treeB
    rw [this]; rfl
  · rw [← Bool.not_eq_true]
    unfold treeS
    rw [Bool.and_eq_true, allF_iff, decide_eq_true_eq]
    rintro ⟨h1, h2⟩
    have h3 := h2 i (by omega) (by omega)
    unfold pathB at h3
    rw [Bool.and_eq_true, decide_eq_true_eq, decide_eq_true_eq] at h3
    have hp : pth ps (ps.length + 1) (i : Int) = [(i : Int)] := by
      rw [pth, if_pos (by unfold inB; rw [decide_eq_true_eq]; omega), show ((i : Int)).toNat = i by omega]
      congr 1
      cases hn : ps.length with
      | zero => omega
      | succ n =>
        rw [pth, if_neg]
        intro hb
        have := inB_t hb
        omega
    rw [hp] at h3
    rcases jroot_at ps 0 (-1) h1 with ⟨h4, _⟩ | ⟨_, j, hj, h5, h6⟩
    · omega
    · have h7 : ((i : Int)) = (j : Nat) := by
        have := h3.2
        rw [h5] at this
        simpa using this
      have : i = j := by omega
      subst this
      omega
theorem tree_eq {ps : List Int} (h1 : 1 ≤ ps.length) (h2 : ps.length ≤ 4) : treeB ps = treeS ps := by
  by_cases h : ∀ x ∈ ps, -1 ≤ x ∧ x ≤ (ps.length : Int) - 1
  · have key : ∀ al : List Int, chkT al ps.length = true → (∀ x ∈ ps, x ∈ al) → treeB ps = treeS ps := fun al hc hm => by
      unfold chkT at hc
      rw [List.all_eq_true] at hc
      have := hc ps (mem_allLists hm)
      simpa using this
    have hl : ps.length = 1 ∨ ps.length = 2 ∨ ps.length = 3 ∨ ps.length = 4 := by omega
    rcases hl with e | e | e | e
    · refine key [-1, 0] (by rw [e]; exact chkT1) fun x hx => ?_
      have := h x hx
      simp; omega
    · refine key [-1, 0, 1] (by rw [e]; exact chkT2) fun x hx => ?_
      have := h x hx
      simp; omega
    · refine key [-1, 0, 1, 2] (by rw [e]; exact chkT3) fun x hx => ?_
      have := h x hx
      simp; omega
    · refine key [-1, 0, 1, 2, 3] (by rw [e]; exact chkT4) fun x hx => ?_
      have := h x hx
      simp; omega
  · obtain ⟨x, hx⟩ := Classical.not_forall.1 h
    obtain ⟨hm, hx⟩ := Classical.not_imp.1 hx
    obtain ⟨i, hi, e⟩ := List.getElem_of_mem hm
    have := out_false (ps := ps) hi (by rw [List.getD_eq_getElem?_getD, List.getElem?_eq_getElem hi, e]; exact hx)
    rw [this.1, this.2]
def topB (ats : List At) (ps : List Int) (v : Int) (i : Nat) : Bool := decide (v ∈ vof ats i) && (decide (ps.getD i 0 < 0) || !decide (v ∈ vof ats (ps.getD i 0).toNat))
def topsG (ats : List At) (ps : List Int) (v : Int) : Nat → Nat → Int → Int
  | 0, _, t => t
  | f + 1, i, t => topsG ats ps v f (i + 1) (if topB ats ps v i = true then t + 1 else t)
def tops (ats : List At) (ps : List Int) (v : Int) : Int := topsG ats ps v ats.length 0 0
theorem topsG_step {ats : List At} {ps : List Int} {v t : Int} {n k : Nat} (h : k < n) : topsG ats ps v (n - k) k t = topsG ats ps v (n - (k + 1)) (k + 1) (if topB ats ps v k = true then t + 1 else t) := by
  rw [show n - k = (n - (k + 1)) + 1 by omega, topsG]
theorem topsG_end {ats : List At} {ps : List Int} {v t : Int} {n k : Nat} (h : ¬ k < n) : topsG ats ps v (n - k) k t = t := by
  rw [show n - k = 0 by omega, topsG]
def jtB (n : Nat) (ats : List At) (ps : List Int) : Bool := decide (ps.length = ats.length) && treeB ps && allF (fun v => decide (tops ats ps v = 1)) n 0
end Go.Proofs.YtfigcfajkilhiaaGreat
namespace Go.Proofs.YtfigcfajkilhiaaGreat
open Go.RowKit
def bfsF (ps : List Int) : Nat → Nat → List Int → List Int
  | 0, _, _ => []
  | f + 1, k, out => if k < out.length then bfsF ps f (k + 1) (out ++ chl 0 (out.getD k 0) ps) else out
def bfsL (ps : List Int) : List Int := bfsF ps (ps.length + 2) 0 [jroot 0 (-1) ps]
def upL (ps : List Int) : List Int := (bfsL ps).reverse
def ordF (ps : List Int) : Nat → Int → List Int
  | 0, _ => []
  | f + 1, k => ((chl 0 k ps).map (ordF ps f)).flatten ++ [k]
def deepB (ps : List Int) : Nat → Int → Bool
  | 0, _ => false
  | f + 1, k => (chl 0 k ps).all (deepB ps f)
def ordL (ps : List Int) : List Int := ordF ps (ps.length + 1) (jroot 0 (-1) ps)
def parN (ps : List Int) (j : Nat) : Int := ps.getD j 0
def prs (ps : List Int) (o : List Int) : List (Nat × Nat) := (o.filter fun i => decide (0 ≤ ps.getD i.toNat 0)).map fun i => (i.toNat, (ps.getD i.toNat 0).toNat)
def jprs (ps : List Int) (o : List Int) : List (Nat × Nat) := o.flatMap fun i => (chl 0 i ps).map fun k => (k.toNat, i.toNat)
def elimN (ps : List Int) (r : Nat) : List (Nat × Nat) → Option (List Nat)
  | [] => if parN ps r = -1 then some [r] else none
  | (c, p) :: L => match elimN ps r L with
    | none => none
    | some N => if (N.contains c = false ∧ N.contains p = true) ∧ parN ps c = (p : Int) then some (c :: N) else none
theorem elimN_ok {ps : List Int} {r : Nat} : ∀ {L : List (Nat × Nat)} {N : List Nat}, elimN ps r L = some N → Elim (parN ps) L r N
  | [], N, h => by
    unfold elimN at h
    split at h
    · rename_i h1
      injection h with h
      subst h
      exact .nil h1
    · cases h
  | (c, p) :: L, N, h => by
    unfold elimN at h
    split at h
    · cases h
    · rename_i M hM
      split at h
      · rename_i h1
        injection h with h
        subst h
        refine .cons (elimN_ok hM) ?_ ?_ h1.2
        · have := h1.1.1
          simpa using this
        · have := h1.1.2
          simpa using this
      · cases h
def allIn (n : Nat) (o : Option (List Nat)) : Bool := match o with
  | none => false
  | some N => (List.range n).all (fun j => N.contains j) && N.all fun j => decide (j < n)
def inR (n : Nat) (o : List Int) : Bool := o.all fun i => decide (0 ≤ i) && decide (i < n)
def chkO (ps : List Int) : Bool := !treeB ps || (decide (0 ≤ jroot 0 (-1) ps) && allIn ps.length (elimN ps (jroot 0 (-1) ps).toNat (prs ps (upL ps))) && allIn ps.length (elimN ps (jroot 0 (-1) ps).toNat (prs ps (ordL ps))) && allIn ps.length (elimN ps (jroot 0 (-1) ps).toNat (jprs ps (upL ps)))
  && decide ((bfsL ps).length = ps.length) && inR ps.length (upL ps) && decide ((ordL ps).length = ps.length) && inR ps.length (ordL ps) && deepB ps (ps.length + 1) (jroot 0 (-1) ps) && decide (ps.getD ((ordL ps).getD ((ordL ps).length - 1) 0).toNat 0 = -1)
  && ((ordL ps).take ((ordL ps).length - 1)).all (fun i => decide (0 ≤ ps.getD i.toNat 0)))
def chkA (al : List Int) (n : Nat) : Bool := (allLists al n).all chkO
theorem chkA1 : chkA [-1, 0] 1 = true := by decide +kernel
theorem chkA2 : chkA [-1, 0, 1] 2 = true := by decide +kernel
theorem chkA3 : chkA [-1, 0, 1, 2] 3 = true := by decide +kernel
theorem chkA4 : chkA [-1, 0, 1, 2, 3] 4 = true := by decide +kernel
structure OrdOk (ps : List Int) (r : Nat) : Prop where
  root : jroot 0 (-1) ps = (r : Int)
  up : ∃ N, Elim (parN ps) (prs ps (upL ps)) r N ∧ ∀ j, j ∈ N ↔ j < ps.length
  od : ∃ N, Elim (parN ps) (prs ps (ordL ps)) r N ∧ ∀ j, j ∈ N ↔ j < ps.length
  jn : ∃ N, Elim (parN ps) (jprs ps (upL ps)) r N ∧ ∀ j, j ∈ N ↔ j < ps.length
  bl : (bfsL ps).length = ps.length
  ui : ∀ i ∈ upL ps, 0 ≤ i ∧ i < (ps.length : Int)
  ol : (ordL ps).length = ps.length
  oi : ∀ i ∈ ordL ps, 0 ≤ i ∧ i < (ps.length : Int)
  deep : deepB ps (ps.length + 1) (r : Int) = true
  last : ps.getD ((ordL ps).getD ((ordL ps).length - 1) 0).toNat 0 = -1
  pos : ∀ i ∈ (ordL ps).take ((ordL ps).length - 1), 0 ≤ ps.getD i.toNat 0
theorem allIn_ok {ps : List Int} {r : Nat} {L : List (Nat × Nat)} (h : allIn ps.length (elimN ps r L) = true) : ∃ N, Elim (parN ps) L r N ∧ ∀ j, j ∈ N ↔ j < ps.length := by
  unfold allIn at h
  split at h
  · cases h
  · rename_i N hN
    rw [Bool.and_eq_true, List.all_eq_true, List.all_eq_true] at h
    refine ⟨N, elimN_ok hN, fun j => ⟨fun hj => of_decide_eq_true (h.2 j hj), fun hj => ?_⟩⟩
    have := h.1 j (List.mem_range.2 hj)
    simpa using this
theorem inR_ok {n : Nat} {o : List Int} (h : inR n o = true) : ∀ i ∈ o, 0 ≤ i ∧ i < (n : Int) := fun i hi => by
  unfold inR at h
  rw [List.all_eq_true] at h
  have := h i hi
  simpa using this
theorem treeB_in {ps : List Int} (h : treeB ps = true) : ∀ x ∈ ps, -1 ≤ x ∧ x ≤ (ps.length : Int) - 1 := by
  intro x hx
  obtain ⟨j, hj, rfl⟩ := List.getElem_of_mem hx
  unfold treeB at h
  rw [Bool.and_eq_true, allF_iff] at h
  have := h.1 j (by omega) (by omega)
  unfold upB at this
  rw [Bool.and_eq_true] at this
  have h2 := inB_t this.1
  rw [getDl _ _ hj] at h2
  exact h2
theorem chkO_all {ps : List Int} (h1 : 1 ≤ ps.length) (h2 : ps.length ≤ 4) (ht : treeB ps = true) : chkO ps = true := by
  have hb := treeB_in ht
  have go : ∀ al : List Int, chkA al ps.length = true → (∀ x : Int, -1 ≤ x → x ≤ (ps.length : Int) - 1 → x ∈ al) → chkO ps = true := fun al hc ha => by
    unfold chkA at hc
    rw [List.all_eq_true] at hc
    exact hc ps (mem_allLists fun x hx => ha x (hb x hx).1 (hb x hx).2)
  obtain ⟨n, hn⟩ : ∃ n, ps.length = n := ⟨_, rfl⟩
  rw [hn] at h1 h2 go
  have hn4 : n = 1 ∨ n = 2 ∨ n = 3 ∨ n = 4 := by omega
  rcases hn4 with rfl | rfl | rfl | rfl
  · exact go _ chkA1 (by intro x h1 h2; simp; omega)
  · exact go _ chkA2 (by intro x h1 h2; simp; omega)
  · exact go _ chkA3 (by intro x h1 h2; simp; omega)
  · exact go _ chkA4 (by intro x h1 h2; simp; omega)
theorem ord_ok {ps : List Int} (h1 : 1 ≤ ps.length) (h2 : ps.length ≤ 4) (ht : treeB ps = true) : ∃ r, OrdOk ps r := by
  have h := chkO_all h1 h2 ht
  unfold chkO at h
  rw [ht] at h
  simp only [Bool.not_true, Bool.false_or, Bool.and_eq_true, decide_eq_true_eq, List.all_eq_true] at h
  obtain ⟨⟨⟨⟨⟨⟨⟨⟨⟨⟨h1, h2⟩, h3⟩, h4⟩, h5⟩, h6⟩, h7⟩, h8⟩, h9⟩, h10⟩, h11⟩ := h
  have e : jroot 0 (-1) ps = ((jroot 0 (-1) ps).toNat : Int) := by omega
  exact ⟨(jroot 0 (-1) ps).toNat, e, allIn_ok h2, allIn_ok h3, allIn_ok h4, h5, inR_ok h6, h7, inR_ok h8, by rw [← e]; exact h9, h10, h11⟩
theorem topsG_cnt {ats : List At} {ps : List Int} {v : Int} : ∀ (f k : Nat) (t : Int), t ≤ topsG ats ps v f k t ∧ (∀ i, k ≤ i → i < k + f → topB ats ps v i = true → t + 1 ≤ topsG ats ps v f k t) ∧ ∀ i j, k ≤ i → i < j → j < k + f → topB ats ps v i = true → topB ats ps v j = true → t + 2 ≤ topsG ats ps v f k t
  | 0, k, t => ⟨by simp [topsG], fun i h1 h2 => by omega, fun i j h1 h2 h3 => by omega⟩
  | f + 1, k, t => by
    rw [topsG]
    by_cases hb : topB ats ps v k = true
    · rw [if_pos hb]
      obtain ⟨a, b, c⟩ := topsG_cnt (ats := ats) (ps := ps) (v := v) f (k + 1) (t + 1)
      refine ⟨by omega, fun i h1 h2 h3 => by omega, fun i j h1 h2 h3 h4 h5 => ?_⟩
      have := b j (by omega) (by omega) h5
      omega
    · rw [if_neg hb]
      obtain ⟨a, b, c⟩ := topsG_cnt (ats := ats) (ps := ps) (v := v) f (k + 1) t
      have ne : ∀ i, topB ats ps v i = true → i ≠ k := fun i hi e => hb (e ▸ hi)
      exact ⟨a, fun i h1 h2 h3 => b i (by have := ne i h3; omega) (by omega) h3, fun i j h1 h2 h3 h4 h5 => c i j (by have := ne i h4; omega) h2 (by omega) h4 h5⟩
def vrsA (ats : List At) (j : Nat) : List Int := avars 5 0 (vof ats j)
def InV (ats : List At) (n : Int) : Prop := n ≤ 5 ∧ ∀ a ∈ ats, ∀ v ∈ a.2, 0 ≤ v ∧ v < n
theorem InV.at {ats : List At} {n : Int} (h : InV ats n) (j : Nat) : ∀ v ∈ vof ats j, 0 ≤ v ∧ v < n := by
  intro v hv
  unfold vof at hv
  by_cases hj : j < ats.length
  · rw [getDl _ _ hj] at hv
    exact h.2 _ (List.getElem_mem hj) v hv
  · rw [List.getD_eq_getElem?_getD, List.getElem?_eq_none (by omega)] at hv
    cases hv
theorem mem_vrsA {ats : List At} {n : Int} (h : InV ats n) {j : Nat} {v : Int} : v ∈ vrsA ats j ↔ v ∈ vof ats j := mem_av5 fun v hv => by have := h.at j v hv; have := h.1; omega
theorem top_one {ats : List At} {ps : List Int} {n : Nat} (hn : InV ats n) (h : jtB n ats ps = true) : ∀ v s t, s < ats.length → t < ats.length → TopOf (vrsA ats) (parN ps) v s → TopOf (vrsA ats) (parN ps) v t → s = t := by
  intro v s t hs ht h1 h2
  unfold jtB at h
  rw [Bool.and_eq_true, Bool.and_eq_true, allF_iff] at h
  have hv := hn.at s v ((mem_vrsA hn).1 h1.1)
  have h3 := of_decide_eq_true (h.2 v.toNat (by omega) (by omega))
  rw [Int.toNat_of_nonneg hv.1] at h3
  have hb : ∀ i, TopOf (vrsA ats) (parN ps) v i → topB ats ps v i = true := fun i hi => by
    unfold topB
    rw [Bool.and_eq_true, decide_eq_true_eq, Bool.or_eq_true, decide_eq_true_eq, Bool.not_eq_true', decide_eq_false_iff_not]
    refine ⟨(mem_vrsA hn).1 hi.1, ?_⟩
    rcases hi.2 with e | e
    · left
      show parN ps i < 0
      omega
    · by_cases hneg : ps.getD i 0 < 0
      · exact .inl hneg
      · right
        intro hm
        exact e _ (show ps.getD i 0 = (((ps.getD i 0).toNat : Nat) : Int) by omega) ((mem_vrsA hn).2 hm)
  obtain ⟨_, _, hc⟩ := topsG_cnt (ats := ats) (ps := ps) (v := v) ats.length 0 0
  unfold tops at h3
  rcases Nat.lt_trichotomy s t with hlt | e | hlt
  · have := hc s t (by omega) hlt (by omega) (hb s h1) (hb t h2)
    omega
  · exact e
  · have := hc t s (by omega) hlt (by omega) (hb t h2) (hb s h1)
    omega
def zV : VRd := ([], 0, [])
def mkD (n : Nat) (V : Nat → List Int) (S : RowsOf) : List VRd := (List.range n).map fun j => (V j, ((V j).length : Int), S j)
theorem mkD_len (n : Nat) (V : Nat → List Int) (S : RowsOf) : (mkD n V S).length = n := by simp [mkD]
theorem mkD_get {n : Nat} {V : Nat → List Int} {S : RowsOf} {j : Nat} (h : j < n) : (mkD n V S).getD j zV = (V j, ((V j).length : Int), S j) := by
  rw [getDl _ _ (by rw [mkD_len]; exact h)]
  simp [mkD]
def semiD (ds : List VRd) (p i : Nat) : List VRd := ds.set p ((semiR (ds.getD p zV) (ds.getD i zV)).getD zV)
def runD (ds : List VRd) (l : List (Nat × Nat)) : List VRd := l.foldl (fun ds x => semiD ds x.1 x.2) ds
def OkS (n : Nat) (V : Nat → List Int) (S : RowsOf) : Prop := ∀ j, j < n → VrOk (V j, ((V j).length : Int), S j)
theorem semiR_ok {a b : VRd} (ha : VrOk a) (hb : VrOk b) : semiR a b = some (a.1, a.2.1, semiL a.1 a.2.2 b.1 b.2.2) := by
  unfold semiR
  rw [if_pos ⟨vrB_iff.2 ha, vrB_iff.2 hb⟩]
theorem OkS.semi {n : Nat} {V : Nat → List Int} {S : RowsOf} (h : OkS n V S) {p i : Nat} (hp : p < n) (hi : i < n) : OkS n V (semiAt V S p i) := by
  intro j hj
  unfold semiAt
  by_cases e : j = p
  · subst e
    rw [if_pos rfl]
    exact semi_ok (semiR_ok (h j hj) (h i hi))
  · rw [if_neg e]
    exact h j hj
theorem semiD_mk {n : Nat} {V : Nat → List Int} {S : RowsOf} (h : OkS n V S) {p i : Nat} (hp : p < n) (hi : i < n) : semiD (mkD n V S) p i = mkD n V (semiAt V S p i) := by
  unfold semiD
  rw [mkD_get hp, mkD_get hi, semiR_ok (h p hp) (h i hi)]
  apply List.ext_getElem
  · simp [mkD]
  · intro j h1 h2
    have h3 : j < n := by simpa [mkD_len] using h2
    rw [← getDl (mkD n V (semiAt V S p i)) zV h2, mkD_get h3, List.getElem_set]
    by_cases e : p = j
    · subst e
      rw [if_pos rfl]
      simp [semiAt]
    · rw [if_neg e, ← getDl (mkD n V S) zV (by rw [mkD_len]; exact h3), mkD_get h3]
      unfold semiAt
      rw [if_neg (fun h => e h.symm)]
theorem runD_mk {n : Nat} {V : Nat → List Int} : ∀ {l : List (Nat × Nat)} {S : RowsOf}, OkS n V S → (∀ x ∈ l, x.1 < n ∧ x.2 < n) → runD (mkD n V S) l = mkD n V (runOps V S l) ∧ OkS n V (runOps V S l)
  | [], S, h, _ => ⟨rfl, h⟩
  | (p, i) :: l, S, h, hl => by
    have hx := hl (p, i) (by simp)
    have := runD_mk (l := l) (h.semi hx.1 hx.2) (fun x hx => hl x (by simp [hx]))
    unfold runD at this ⊢
    rw [List.foldl_cons, semiD_mk h hx.1 hx.2, runOps_cons]
    exact this
structure Yan (d : Dbd) (q : Qd) (ps : List Int) (r : Nat) : Prop where
  ok : QOk d q
  n : ps.length = q.2.1.length
  n1 : 1 ≤ q.2.1.length
  n4 : q.2.1.length ≤ 4
  inv : InV q.2.1 q.1
  uniq : ∀ v s t, s < q.2.1.length → t < q.2.1.length → TopOf (vrsA q.2.1) (parN ps) v s → TopOf (vrsA q.2.1) (parN ps) v t → s = t
  ord : OrdOk ps r
def rowsA (d : Dbd) (ats : List At) (j : Nat) : List (List Int) := (atomBd d (ats.getD j (⟨#[]⟩, []))).2
theorem rowsA_ok (d : Dbd) (ats : List At) : OkS ats.length (vrsA ats) (rowsA d ats) := fun j _ => atomBd_ok (d := d) (a := ats.getD j (⟨#[]⟩, []))
theorem start_mk (d : Dbd) (ats : List At) : ats.map (atomVR d) = mkD ats.length (vrsA ats) (rowsA d ats) := by
  apply List.ext_getElem
  · simp [mkD]
  · intro j h1 h2
    have h3 : j < ats.length := by simpa [mkD_len] using h2
    rw [← getDl (mkD ats.length (vrsA ats) (rowsA d ats)) zV h2, mkD_get h3, List.getElem_map]
    unfold atomVR vrsA rowsA vof
    rw [getDl _ _ h3]
    rfl
def fullD (d : Dbd) (q : Qd) (L : List (Nat × Nat)) : List VRd := runD (q.2.1.map (atomVR d)) (fullOps L)
theorem OkS.len {n : Nat} {V : Nat → List Int} {S : RowsOf} (h : OkS n V S) {N : List Nat} (hN : ∀ j, j ∈ N ↔ j < n) : Len V S N := fun j hj => by
  have := h j ((hN j).1 hj)
  exact ⟨asc_nodup this.asc, this.rl⟩
theorem Yan.sol {d : Dbd} {q : Qd} {ps : List Int} {r : Nat} (h : Yan d q ps r) {N : List Nat} (hN : ∀ j, j ∈ N ↔ j < q.2.1.length) (g : Int → Int) : Sol (vrsA q.2.1) (rowsA d q.2.1) N g ↔ (idV q.1).map g ∈ allB d q := by
  have hat : ∀ a ∈ q.2.1, atFit d a = true ∧ ∀ v ∈ a.2, 0 ≤ v ∧ v ≤ 4 := fun a ha => ⟨h.ok.fit a ha, fun v hv => by have := h.inv.2 a ha v hv; have := h.inv.1; omega⟩
  have key : ∀ a ∈ q.2.1, (avars 5 0 a.2).map g ∈ (atomBd d a).2 ↔ a.2.map g ∈ (relOf d a).2 := fun a ha => by
    rw [mem_atom (hat a ha).1 (hat a ha).2]
    constructor
    · rintro ⟨k, e, hk⟩
      rw [← List.map_congr_left fun v hv => map_at' e v ((mem_av5 (hat a ha).2).2 hv)]
      exact hk
    · exact fun hk => ⟨g, rfl, hk⟩
  have h2 : (idV q.1).map g ∈ allB d q ↔ ∀ a ∈ q.2.1, a.2.map g ∈ (relOf d a).2 := by
    rw [mem_allB h.ok, holds_map h.ok]
    refine ⟨fun k => k.2, fun k => ⟨?_, k⟩⟩
    have := h.ok.n1
    simp [idV]
    omega
  rw [h2]
  constructor
  · intro hs a ha
    obtain ⟨j, hj, rfl⟩ := List.getElem_of_mem ha
    have := hs j ((hN j).2 hj)
    unfold vrsA rowsA vof at this
    rw [getDl _ _ hj] at this
    exact (key _ ha).1 this
  · intro hs j hj
    have hj' := (hN j).1 hj
    unfold vrsA rowsA vof
    rw [getDl _ _ hj']
    exact (key _ (List.getElem_mem hj')).2 (hs _ (List.getElem_mem hj'))
theorem Yan.full {d : Dbd} {q : Qd} {ps : List Int} {r : Nat} (h : Yan d q ps r) {L : List (Nat × Nat)} (hE : ∃ N, Elim (parN ps) L r N ∧ ∀ j, j ∈ N ↔ j < ps.length) :
    ∃ S, fullD d q L = mkD q.2.1.length (vrsA q.2.1) S ∧ OkS q.2.1.length (vrsA q.2.1) S ∧ ∀ j, j < q.2.1.length → ∀ t, t ∈ S j ↔ ∃ g : Int → Int, (vrsA q.2.1 j).map g = t ∧ (idV q.1).map g ∈ allB d q := by
  obtain ⟨N, hE, hN⟩ := hE
  rw [h.n] at hN
  have hEar := hE.ear (V := vrsA q.2.1) fun v s hs t ht => h.uniq v s t ((hN s).1 hs) ((hN t).1 ht)
  have hok := rowsA_ok d q.2.1
  have hm := hEar.mem
  have hops : ∀ x ∈ fullOps L, x.1 < q.2.1.length ∧ x.2 < q.2.1.length := fun x hx => by
    rw [fullOps_eq] at hx
    rcases List.mem_append.1 hx with hx | hx
    · obtain ⟨y, hy, rfl⟩ := List.mem_map.1 hx
      exact ⟨(hN _).1 (hm y hy).2.1, (hN _).1 (hm y hy).1⟩
    · have := hm x (List.mem_reverse.1 hx)
      exact ⟨(hN _).1 this.1, (hN _).1 this.2.1⟩
  obtain ⟨e1, e2⟩ := runD_mk hok hops
  refine ⟨_, ?_, e2, fun j hj t => ?_⟩
  · unfold fullD
    rw [start_mk, e1]
  · rw [full_iff hEar _ (hok.len hN) j ((hN j).2 hj) t]
    constructor
    · rintro ⟨g, e, hs⟩; exact ⟨g, e, (h.sol hN g).1 hs⟩
    · rintro ⟨g, e, hs⟩; exact ⟨g, e, (h.sol hN g).2 hs⟩
theorem Yan.full_eq {d : Dbd} {q : Qd} {ps : List Int} {r : Nat} (h : Yan d q ps r) {L M : List (Nat × Nat)} (hL : ∃ N, Elim (parN ps) L r N ∧ ∀ j, j ∈ N ↔ j < ps.length) (hM : ∃ N, Elim (parN ps) M r N ∧ ∀ j, j ∈ N ↔ j < ps.length) : fullD d q L = fullD d q M := by
  obtain ⟨S, e1, o1, m1⟩ := h.full hL
  obtain ⟨T, e2, o2, m2⟩ := h.full hM
  rw [e1, e2]
  unfold mkD
  refine List.map_congr_left fun j hj => ?_
  have hj := List.mem_range.1 hj
  have : S j = T j := ascR_ext (o1 j hj).ra (o2 j hj).ra fun t => by rw [m1 j hj, m2 j hj]
  rw [this]
def joinG : List (Nat × Nat) → List VRd → Option (List VRd)
  | [], ds => some ds
  | (c, p) :: L, ds => match joinR (ds.getD p zV) (ds.getD c zV) with
    | none => none
    | some x => joinG L (ds.set p x)
theorem nodup_sub {α : Type} [DecidableEq α] : ∀ {l A : List α}, l.Nodup → (∀ x ∈ l, x ∈ A) → l.length ≤ A.length
  | [], _, _, _ => by simp
  | x :: l, A, h, hs => by
    rw [List.nodup_cons] at h
    have hx := hs x (by simp)
    have := nodup_sub (l := l) (A := A.erase x) h.2 fun y hy => (List.mem_erase_of_ne (fun (e : y = x) => h.1 (e ▸ hy))).2 (hs y (by simp [hy]))
    rw [List.length_erase_of_mem hx] at this
    have := List.length_pos_of_mem hx
    simp only [List.length_cons]
    omega
def AtD (ds : List VRd) (V : Nat → List Int) (S : RowsOf) (j : Nat) : Prop := j < ds.length ∧ ds.getD j zV = (V j, ((V j).length : Int), S j) ∧ VrOk (V j, ((V j).length : Int), S j)
theorem join_all {U : List Int} {A : List (List Int)} (hA : AscR A) (hU : Asc U) (hz : ∀ z ∈ A, z.length = U.length) : ∀ (L : List (Nat × Nat)) {r : Nat} {N : List Nat} {V : Nat → List Int} {S : RowsOf} {ds : List VRd}, Ear V L r N → (∀ g : Int → Int, Sol V S N g ↔ U.map g ∈ A) → Whole V S N → (∀ j ∈ N, AtD ds V S j) → (∀ v, v ∈ U ↔ ∃ j ∈ N, v ∈ V j) →
    (A.length ≤ 4000 → joinG L ds ≠ none) ∧ ∀ ds', joinG L ds = some ds' → ds'.length = ds.length ∧ ds'.getD r zV = (U, (U.length : Int), A) ∧ A.length ≤ 4000
  | [], r, N, V, S, ds, hE, hs, hw, hd, hv => by
    cases hE
    refine ⟨fun _ => by simp [joinG], fun ds' he => ?_⟩
    rw [joinG] at he
    injection he with he
    subst he
    obtain ⟨h1, h2, h3⟩ := hd r (by simp)
    have eU : V r = U := asc_ext h3.asc hU fun v => by rw [hv]; simp
    have eS : S r = A := ascR_ext h3.ra hA fun t => by
      constructor
      · intro ht
        obtain ⟨g, e, hg⟩ := hw r (by simp) t ht
        rw [← e, eU]
        exact (hs g).1 hg
      · intro ht
        have hl := hz t ht
        have hg := map_valAt (r := t) (asc_nodup hU) hl
        have := (hs (valAt U t)).2 (by rw [hg]; exact ht) r (by simp)
        rwa [eU, hg] at this
    rw [eU, eS] at h2 h3
    exact ⟨rfl, h2, h3.cnt⟩
  | (c, p) :: L, r, N0, V, S, ds, hE, hs, hw, hd, hv => by
    cases hE with
    | @cons _ _ _ _ N h0 hc hp hv0 =>
      obtain ⟨p1, p2, p3⟩ := hd p (by simp [hp])
      obtain ⟨c1, c2, c3⟩ := hd c (by simp)
      rw [joinG, p2, c2]
      obtain ⟨J, hJ⟩ : ∃ J, joinL (uniL (V p) (V c)) (V p) (S p) (V c) (S c) = J := ⟨_, rfl⟩
      have hmem : ∀ t, t ∈ J ↔ ∃ g : Int → Int, (uniL (V p) (V c)).map g = t ∧ (V p).map g ∈ S p ∧ (V c).map g ∈ S c := fun t => by rw [← hJ]; exact join_mem p3 c3
      have hmem2 : ∀ t, t ∈ sortR J ↔ ∃ g : Int → Int, (uniL (V p) (V c)).map g = t ∧ (V p).map g ∈ S p ∧ (V c).map g ∈ S c := fun t => by rw [mem_sortR]; exact hmem t
      have hu : ∀ v, v ∈ uniL (V p) (V c) ↔ v ∈ V p ∨ v ∈ V c := fun v => mem_uniL
      have hnd : J.Nodup := by rw [← hJ]; exact join_nodup p3 c3
      have hW := whole_join hp hc hv0 hu hmem2 hw
      have hUp : ∀ v ∈ uniL (V p) (V c), v ∈ U := fun v hm => (hv v).2 (by
        rcases (hu v).1 hm with h | h
        · exact ⟨p, by simp [hp], h⟩
        · exact ⟨c, by simp, h⟩)
      have hsol := sol_join (S := S) hp hc hu hmem2
      have hcnt : J.length ≤ A.length := by
        have hex : ∀ t ∈ J, ∃ z ∈ A, (uniL (V p) (V c)).map (valAt U z) = t := fun t ht => by
          obtain ⟨g, e, hg⟩ := hW p hp t (by unfold upS; rw [if_pos rfl]; exact mem_sortR.2 ht)
          unfold upV at e
          rw [if_pos rfl] at e
          refine ⟨_, (hs g).1 ((hsol g).1 hg), ?_⟩
          rw [← e]
          exact List.map_congr_left fun v hm => valAt_map (hUp v hm)
        have := nodup_sub (A := A.map fun z => (uniL (V p) (V c)).map (valAt U z)) hnd fun t ht => by
          obtain ⟨z, hz, e⟩ := hex t ht
          exact List.mem_map.2 ⟨z, hz, e⟩
        simpa using this
      have e1 : joinR (V p, ((V p).length : Int), S p) (V c, ((V c).length : Int), S c) = if J.length ≤ 4000 then some (uniL (V p) (V c), ((uniL (V p) (V c)).length : Int), sortR J) else none := by
        unfold joinR joinVR
        simp only [hJ]
        by_cases hk : J.length ≤ 4000
        · rw [if_pos ⟨⟨vrB_iff.2 p3, vrB_iff.2 c3⟩, hk⟩, if_pos hk]
        · rw [if_neg (fun h => hk h.2), if_neg hk]
      by_cases hk : J.length ≤ 4000
      · rw [if_pos hk] at e1
        rw [e1]
        simp only
        have hE2 := Ear.grow hu h0 hc hv0 hp
        have hok := join_ok e1
        have hd2 : ∀ j ∈ N, AtD (ds.set p (uniL (V p) (V c), ((uniL (V p) (V c)).length : Int), sortR J)) (upV V p (uniL (V p) (V c))) (upS S p (sortR J)) j := fun j hj => by
          obtain ⟨j1, j2, j3⟩ := hd j (by simp [hj])
          unfold AtD upV upS
          by_cases e : j = p
          · subst e
            rw [if_pos rfl, if_pos rfl]
            exact ⟨by simpa using j1, by rw [getDl _ _ (by simpa using j1)]; simp, hok⟩
          · rw [if_neg e, if_neg e]
            refine ⟨by simpa using j1, ?_, j3⟩
            rw [getDl _ _ (by simpa using j1), List.getElem_set_ne (fun h => e h.symm), ← j2, getDl _ _ j1]
        have hv2 : ∀ v, v ∈ U ↔ ∃ j ∈ N, v ∈ upV V p (uniL (V p) (V c)) j := fun v => by
          rw [hv]
          unfold upV
          constructor
          · rintro ⟨j, hj, hm⟩
            rcases List.mem_cons.1 hj with e | e
            · subst e
              exact ⟨p, hp, by rw [if_pos rfl]; exact (hu v).2 (.inr hm)⟩
            · by_cases ep : j = p
              · subst ep
                exact ⟨j, e, by rw [if_pos rfl]; exact (hu v).2 (.inl hm)⟩
              · exact ⟨j, e, by rw [if_neg ep]; exact hm⟩
          · rintro ⟨j, hj, hm⟩
            by_cases ep : j = p
            · subst ep
              rw [if_pos rfl] at hm
              rcases (hu v).1 hm with h | h
              · exact ⟨j, by simp [hj], h⟩
              · exact ⟨c, by simp, h⟩
            · rw [if_neg ep] at hm
              exact ⟨j, by simp [hj], hm⟩
        obtain ⟨q1, q2⟩ := join_all hA hU hz L hE2 (fun g => (hsol g).trans (hs g)) hW hd2 hv2
        refine ⟨q1, fun ds' he => ?_⟩
        obtain ⟨a, b, c⟩ := q2 ds' he
        exact ⟨by rw [a]; simp, b, c⟩
      · rw [if_neg hk] at e1
        rw [e1]
        simp only
        exact ⟨fun h => absurd (Nat.le_trans hcnt h) hk, fun ds' he => by cases he⟩
theorem Yan.join {d : Dbd} {q : Qd} {ps : List Int} {r : Nat} (h : Yan d q ps r) {L M : List (Nat × Nat)} (hL : ∃ N, Elim (parN ps) L r N ∧ ∀ j, j ∈ N ↔ j < ps.length) (hM : ∃ N, Elim (parN ps) M r N ∧ ∀ j, j ∈ N ↔ j < ps.length) :
    ((allB d q).length ≤ 4000 → joinG M (fullD d q L) ≠ none) ∧ ∀ ds', joinG M (fullD d q L) = some ds' → ds'.length = q.2.1.length ∧ ds'.getD r zV = (idV q.1, q.1, allB d q) ∧ (allB d q).length ≤ 4000 := by
  obtain ⟨S, e1, o1, m1⟩ := h.full hL
  obtain ⟨N, hE, hN⟩ := hM
  rw [h.n] at hN
  have hEar := hE.ear (V := vrsA q.2.1) fun v s hs t ht => h.uniq v s t ((hN s).1 hs) ((hN t).1 ht)
  have hsub : ∀ j, j < q.2.1.length → ∀ t ∈ S j, t ∈ rowsA d q.2.1 j := fun j hj t ht => by
    obtain ⟨g, e, hg⟩ := (m1 j hj t).1 ht
    rw [← e]
    exact (h.sol hN g).2 hg j ((hN j).2 hj)
  have hs : ∀ g : Int → Int, Sol (vrsA q.2.1) S N g ↔ (idV q.1).map g ∈ allB d q := fun g => by
    constructor
    · intro hg
      exact (h.sol hN g).1 fun j hj => hsub j ((hN j).1 hj) _ (hg j hj)
    · intro hg j hj
      exact (m1 j ((hN j).1 hj) _).2 ⟨g, rfl, hg⟩
  have hw : Whole (vrsA q.2.1) S N := fun j hj t ht => by
    obtain ⟨g, e, hg⟩ := (m1 j ((hN j).1 hj) t).1 ht
    exact ⟨g, e, (hs g).2 hg⟩
  have hd : ∀ j ∈ N, AtD (mkD q.2.1.length (vrsA q.2.1) S) (vrsA q.2.1) S j := fun j hj => by
    have := (hN j).1 hj
    exact ⟨by rw [mkD_len]; exact this, mkD_get this, o1 j this⟩
  have hv : ∀ v, v ∈ idV q.1 ↔ ∃ j ∈ N, v ∈ vrsA q.2.1 j := fun v => by
    rw [mem_idV]
    constructor
    · rintro ⟨h1, h2⟩
      obtain ⟨a, ha, hm⟩ := h.ok.cov v h1 h2
      obtain ⟨j, hj, rfl⟩ := List.getElem_of_mem ha
      refine ⟨j, (hN j).2 hj, (mem_vrsA h.inv).2 ?_⟩
      unfold vof
      rw [getDl _ _ hj]
      exact hm
    · rintro ⟨j, _, hm⟩
      exact h.inv.at j v ((mem_vrsA h.inv).1 hm)
  have hlen : ((idV q.1).length : Int) = q.1 := by
    have := h.ok.n1
    simp [idV]
    omega
  have hz : ∀ z ∈ allB d q, z.length = (idV q.1).length := fun z hz => by
    have := ((mem_allB h.ok).1 hz).1
    omega
  have := join_all (asc_sortR _) (asc_idV q.1) hz M hEar hs hw hd hv
  rw [mkD_len, hlen, ← e1] at this
  exact this
theorem yan {d : Dbd} {q : Qd} {ps : List Int} (h : iqfB d q = true) (hj : jtB q.1.toNat q.2.1 ps = true) : ∃ r, Yan d q ps r := by
  have ok := qok h
  have hj' := hj
  unfold jtB at hj'
  rw [Bool.and_eq_true, Bool.and_eq_true, decide_eq_true_eq] at hj'
  have n1 := ok.at1
  have n4 := ok.at4
  obtain ⟨r, hr⟩ := ord_ok (ps := ps) (by omega) (by omega) hj'.1.2
  have iv : InV q.2.1 q.1 := ⟨ok.n5, ok.vars⟩
  have iv2 : InV q.2.1 (q.1.toNat : Int) := by
    have := ok.n1
    rw [Int.toNat_of_nonneg (by omega)]
    exact iv
  exact ⟨r, ok, hj'.1.1, n1, n4, iv, top_one iv2 hj, hr⟩
theorem Yan.eval {d : Dbd} {q : Qd} {ps : List Int} {r : Nat} (h : Yan d q ps r) (hq : iqfB d q = true) {L M : List (Nat × Nat)} (hL : ∃ N, Elim (parN ps) L r N ∧ ∀ j, j ∈ N ↔ j < ps.length) (hM : ∃ N, Elim (parN ps) M r N ∧ ∀ j, j ∈ N ↔ j < ps.length) :
    (match joinG M (fullD d q L) with
      | none => none
      | some ds => projR (ds.getD r zV).2 q.2.2) = evalR d q := by
  obtain ⟨h1, h2⟩ := h.join hL hM
  unfold evalR bindR
  cases e : joinG M (fullD d q L) with
  | none =>
    have : ¬ (allB d q).length ≤ 4000 := fun k => h1 k e
    rw [if_neg (fun k => this k.2)]
  | some ds =>
    obtain ⟨_, b, c⟩ := h2 ds e
    rw [if_pos ⟨hq, c⟩]
    simp only [b]
end Go.Proofs.YtfigcfajkilhiaaGreat
namespace Go.Proofs.YtfigcfajkilhiaaGreat
open Go.RowKit
def prI (ps : List Int) (i : Int) : List (Nat × Nat) := if 0 ≤ ps.getD i.toNat 0 then [(i.toNat, (ps.getD i.toNat 0).toNat)] else []
theorem prs_nil (ps : List Int) : prs ps [] = [] := rfl
theorem prs_cons (ps : List Int) (i : Int) (o : List Int) : prs ps (i :: o) = prI ps i ++ prs ps o := by
  unfold prs prI
  by_cases h : 0 ≤ ps.getD i.toNat 0
  · rw [List.filter_cons_of_pos (by simpa using h), if_pos h]; rfl
  · rw [List.filter_cons_of_neg (by simpa using h), if_neg h]; rfl
theorem prs_append (ps : List Int) : ∀ (a b : List Int), prs ps (a ++ b) = prs ps a ++ prs ps b
  | [], b => rfl
  | i :: a, b => by rw [List.cons_append, prs_cons, prs_cons, prs_append ps a b, List.append_assoc]
theorem prs_take {ps o : List Int} {k : Nat} (h : k < o.length) : prs ps (o.take (k + 1)) = prs ps (o.take k) ++ prI ps o[k] := by
  rw [List.take_succ_eq_append_getElem h, prs_append, prs_cons, prs_nil, List.append_nil]
theorem prs_drop {ps o : List Int} {k : Nat} (h : k < o.length) : prs ps (o.drop k) = prI ps o[k] ++ prs ps (o.drop (k + 1)) := by
  rw [List.drop_eq_getElem_cons h, prs_cons]
def upD (ps o : List Int) (k : Nat) (ds : List VRd) : List VRd := runD ds ((prs ps (o.take k)).map fun x => (x.2, x.1))
def dnD (ps o : List Int) (k : Nat) (ds : List VRd) : List VRd := runD ds (prs ps (o.drop k)).reverse
theorem runD_append (ds : List VRd) (a b : List (Nat × Nat)) : runD ds (a ++ b) = runD (runD ds a) b := by unfold runD; rw [List.foldl_append]
theorem upD_yes {ps o : List Int} {k : Nat} {ds : List VRd} {i p : Nat} (h : k < o.length) (hi : o[k] = (i : Int)) (hp : ps.getD i 0 = (p : Int)) : upD ps o (k + 1) ds = semiD (upD ps o k ds) p i := by
  unfold upD
  rw [prs_take h, hi, List.map_append, runD_append]
  unfold prI
  rw [Int.toNat_natCast, hp, if_pos (by omega)]
  rfl
theorem upD_no {ps o : List Int} {k : Nat} {ds : List VRd} {i : Nat} (h : k < o.length) (hi : o[k] = (i : Int)) (hp : ps.getD i 0 < 0) : upD ps o (k + 1) ds = upD ps o k ds := by
  unfold upD
  rw [prs_take h, hi]
  unfold prI
  rw [Int.toNat_natCast, if_neg (by omega), List.append_nil]
theorem dnD_end {ps o : List Int} {k : Nat} {ds : List VRd} (h : o.length ≤ k) : dnD ps o k ds = ds := by
  unfold dnD
  rw [List.drop_eq_nil_of_le h]
  rfl
theorem dnD_yes {ps o : List Int} {k : Nat} {ds : List VRd} {i p : Nat} (h : k < o.length) (hi : o[k] = (i : Int)) (hp : ps.getD i 0 = (p : Int)) : dnD ps o k ds = semiD (dnD ps o (k + 1) ds) i p := by
  unfold dnD
  rw [prs_drop h, hi, List.reverse_append, runD_append]
  unfold prI
  rw [Int.toNat_natCast, hp, if_pos (by omega)]
  rfl
theorem dnD_no {ps o : List Int} {k : Nat} {ds : List VRd} {i : Nat} (h : k < o.length) (hi : o[k] = (i : Int)) (hp : ps.getD i 0 < 0) : dnD ps o k ds = dnD ps o (k + 1) ds := by
  unfold dnD
  rw [prs_drop h, hi]
  unfold prI
  rw [Int.toNat_natCast, if_neg (by omega), List.nil_append]
theorem full_steps (d : Dbd) (q : Qd) (ps o : List Int) : dnD ps o 0 (upD ps o o.length (q.2.1.map (atomVR d))) = fullD d q (prs ps o) := by
  unfold fullD dnD upD
  rw [List.take_length, List.drop_zero, fullOps_eq, runD_append]
theorem semiD_len (ds : List VRd) (p i : Nat) : (semiD ds p i).length = ds.length := by unfold semiD; rw [List.length_set]
theorem runD_len : ∀ (l : List (Nat × Nat)) (ds : List VRd), (runD ds l).length = ds.length
  | [], _ => rfl
  | x :: l, ds => by
    show (runD (semiD ds x.1 x.2) l).length = _
    rw [runD_len l, semiD_len]
def OkDs (ds : List VRd) : Prop := ∀ x ∈ ds, VrOk x
theorem OkDs.get {ds : List VRd} (h : OkDs ds) {k : Nat} (hk : k < ds.length) : VrOk ds[k] := h _ (List.getElem_mem hk)
theorem OkDs.start (d : Dbd) (ats : List At) : OkDs (ats.map (atomVR d)) := fun x hx => by
  obtain ⟨a, _, rfl⟩ := List.mem_map.1 hx
  exact atomBd_ok
theorem semiD_eq {ds : List VRd} (h : OkDs ds) {p i : Nat} (hp : p < ds.length) (hi : i < ds.length) : ∃ x, semiR ds[p] ds[i] = some x ∧ VrOk x ∧ semiD ds p i = ds.set p x := by
  have e := semiR_ok (h.get hp) (h.get hi)
  refine ⟨_, e, semi_ok e, ?_⟩
  unfold semiD
  rw [getDl _ _ hp, getDl _ _ hi, e]
  rfl
theorem OkDs.semi {ds : List VRd} (h : OkDs ds) {p i : Nat} (hp : p < ds.length) (hi : i < ds.length) : OkDs (semiD ds p i) := by
  obtain ⟨x, _, hx, e⟩ := semiD_eq h hp hi
  rw [e]
  intro y hy
  rcases List.mem_or_eq_of_mem_set hy with k | k
  · exact h y k
  · rw [k]; exact hx
theorem joinG_append : ∀ (a b : List (Nat × Nat)) (ds : List VRd), joinG (a ++ b) ds = (joinG a ds).bind (joinG b)
  | [], b, ds => rfl
  | (c, p) :: a, b, ds => by
    rw [List.cons_append, joinG, joinG]
    cases h : joinR (ds.getD p zV) (ds.getD c zV) with
    | none => rfl
    | some x => simp only; exact joinG_append a b _
theorem joinG_snoc {a : List (Nat × Nat)} {c p : Nat} {ds es : List VRd} (h : joinG a ds = some es) : joinG (a ++ [(c, p)]) ds = match joinR (es.getD p zV) (es.getD c zV) with | none => none | some x => some (es.set p x) := by
  rw [joinG_append, h]
  show joinG [(c, p)] es = _
  rw [joinG]
  cases joinR (es.getD p zV) (es.getD c zV) <;> rfl
theorem joinG_none {a b : List (Nat × Nat)} {ds : List VRd} (h : joinG a ds = none) : joinG (a ++ b) ds = none := by
  rw [joinG_append, h]
  rfl
theorem joinG_len : ∀ {l : List (Nat × Nat)} {ds es : List VRd}, joinG l ds = some es → es.length = ds.length
  | [], ds, es, h => by rw [joinG] at h; injection h with h; rw [h]
  | (c, p) :: l, ds, es, h => by
    rw [joinG] at h
    cases e : joinR (ds.getD p zV) (ds.getD c zV) with
    | none => rw [e] at h; cases h
    | some x =>
      rw [e] at h
      simp only at h
      rw [joinG_len h, List.length_set]
theorem joinG_ok : ∀ {l : List (Nat × Nat)} {ds es : List VRd}, OkDs ds → joinG l ds = some es → OkDs es
  | [], ds, es, hd, h => by rw [joinG] at h; injection h with h; rw [← h]; exact hd
  | (c, p) :: l, ds, es, hd, h => by
    rw [joinG] at h
    cases e : joinR (ds.getD p zV) (ds.getD c zV) with
    | none => rw [e] at h; cases h
    | some x =>
      rw [e] at h
      simp only at h
      refine joinG_ok (fun y hy => ?_) h
      rcases List.mem_or_eq_of_mem_set hy with k | k
      · exact hd y k
      · rw [k]; exact join_ok e
def jpI (ps : List Int) (i : Int) : List (Nat × Nat) := (chl 0 i ps).map fun k => (k.toNat, i.toNat)
theorem jprs_take {ps o : List Int} {k : Nat} (h : k < o.length) : jprs ps (o.take (k + 1)) = jprs ps (o.take k) ++ jpI ps o[k] := by
  rw [List.take_succ_eq_append_getElem h]
  unfold jprs jpI
  rw [List.flatMap_append]
  simp
theorem jprs_all {ps o : List Int} {k : Nat} (_h : k < o.length) : jprs ps o = jprs ps (o.take (k + 1)) ++ jprs ps (o.drop (k + 1)) := by
  unfold jprs
  rw [← List.flatMap_append, List.take_append_drop]
end Go.Proofs.YtfigcfajkilhiaaGreat
namespace Go.Proofs.YtfigcfajkilhiaaGreat
open Go.RowKit
theorem RV.atA' {w : World} {b o : Nat} {d : List At} (h : RV 2 vAt w (some ⟨b, o, none⟩) d) {k : Nat} (hk : k < d.length) : b < w.heap.size ∧ ∃ s A' c', w.cell? ⟨b, o + k * 2, none⟩ = some (.string s) ∧ w.cell? ⟨b, o + k * 2 + 1, none⟩ = some (.slice A' (vof d k).length c') ∧ RI w A' (vof d k) := by
  obtain ⟨b', o', A', c', e, h1, h2, h3, h4⟩ := h.atA hk
  injection e with e
  injection e with e1 e2 _
  subst e1 e2
  rw [vof_get hk] at h3 h4
  exact ⟨h1, _, A', c', h2, h3, h4⟩
theorem RV.place {w : World} {α : Type} {size : Nat} {E : VE α} {A : Option Addr} {d : List α} (h : RV size E w A d) (hk : 0 < d.length) : ∃ b o, A = some ⟨b, o, none⟩ := by
  obtain ⟨b, o, e, _⟩ := h (by intro e; rw [e] at hk; simp at hk)
  exact ⟨b, o, e⟩
theorem box1 {w : World} {B : Nat} {a : Value} (h : BoxAt w B #[a]) : B < w.heap.size ∧ w.cell? ⟨B, 0, none⟩ = some a ∧ ∀ j, w.frozen? ⟨B, j, none⟩ = false := ⟨h.1, h.2.1 0, h.2.2⟩
theorem cellX {w wr : World} {b o : Nat} {u : Value} (hy : ∃ y, wr = ext w y) (hb : b < w.heap.size) (h : w.cell? ⟨b, o, none⟩ = some u) : wr.cell? ⟨b, o, none⟩ = some u := by
  obtain ⟨y, rfl⟩ := hy
  rw [cell_ext hb]; exact h
theorem ltX {w wr : World} {b : Nat} (hy : ∃ y, wr = ext w y) (hb : b < w.heap.size) : b < wr.heap.size := Nat.lt_of_lt_of_le hb (size_of_ext hy)
end Go.Proofs.YtfigcfajkilhiaaGreat
