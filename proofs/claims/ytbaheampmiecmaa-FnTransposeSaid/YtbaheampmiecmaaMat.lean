/- Matrices of rational numbers: whether all are valid, and the transposition; the program's way and the reference's. -/
import Derived.Test.YtbaheampmiecmaaRatArith
namespace Go.Proofs.Ytbaheampmiecmaa
open Go.RowKit

theorem all_step {α : Type} {p : α → Bool} {xs : List α} {k : Nat} (h : k < xs.length) : (xs.drop k).all p = (p xs[k] && (xs.drop (k + 1)).all p) := by
  rw [List.drop_eq_getElem_cons h, List.all_cons]
theorem all_endk {α : Type} {p : α → Bool} {xs : List α} {k : Nat} (h : ¬ k < xs.length) : (xs.drop k).all p = true := by
  rw [List.drop_eq_nil_of_le (by omega)]; rfl
def allV (xs : List (Int × Int)) : Bool := xs.all isVR
set_option maxHeartbeats 400000 in
theorem allValid_any {A : Option Addr} {c : Nat} {xs : List (Int × Int)} {w : World} (hx : xs.length ≤ 1000000000) (h1 : RR w A xs) :
    Calls Try.prog 32 #[.slice A xs.length c] w fun e w' => e = .returned (.bool (allV xs)) ∧ ∃ y, w' = ext w y := by
  go_enter Try.func32, Try.ntmps32
  go_wp2
  go_loopw [7] (fun i wr => ∃ k : Nat, i = .int .i64 k ∧ k ≤ xs.length ∧ (xs.drop k).all isVR = allV xs ∧ ∃ y, wr = ext w y) (fun i _ => xs.length - (intOf i).toNat)
  case atStart => exact ⟨0, rfl, by omega, by simp [allV], refl_ext w⟩
  case round =>
    obtain ⟨k, rfl, hk, hj, hy⟩ := hrel
    have Hj := Lib.hid hj
    clear hj
    have h1' := h1.toExt hy
    by_cases hlt : k < xs.length
    · obtain ⟨b, o, rfl, hb, hc, hd⟩ := h1'.atR hlt
      have e := Hj.out
      rw [all_step hlt] at e
      cases hv : isVR xs[k] with
      | true =>
        rw [hv, Bool.true_and] at e
        have He := Lib.hid e
        have Hv := Lib.hid (show isVR (xs[k].1, xs[k].2) = true from hv)
        clear e hv
        go_wp2_with (go_at_call 21; refine IsValidRational_any.mono ?_; rintro e w1 ⟨rfl, y1, rfl⟩; rw [Hv.out])
        exact ⟨⟨k + 1, by go_num, by omega, He.out, (by refine Chg.isExt (F := []) ?_ (refl_ext _) (by simp); repeat (with_reducible (first | exact Chg.refl _ _ | exact Nat.le_refl _ | exact Chg.ofExt (by assumption) | refine Chg.trans0 ?_ (by assumption) | refine Chg.extS ?_ _ | refine Chg.alloc ?_ _ | refine Chg.drew ?_ | refine Chg.setCellE ?_ ?_ _ | refine le_addk ?_ _ | refine le_ext ?_ | refine le_alloc ?_ _ | refine le_setC ?_ _ _ | refine le_drew ?_ | assumption | (refine Nat.le_of_lt ?_; omega) | omega)))⟩, by simp [intOf]; omega⟩
      | false =>
        rw [hv, Bool.false_and] at e
        have He := Lib.hid e
        have Hv := Lib.hid (show isVR (xs[k].1, xs[k].2) = false from hv)
        clear e hv
        go_wp2_with (go_at_call 21; refine IsValidRational_any.mono ?_; rintro e w1 ⟨rfl, y1, rfl⟩; rw [Hv.out])
        go_ret
        exact ⟨by rw [← He.out]; rfl, (by refine Chg.isExt (F := []) ?_ (refl_ext _) (by simp); repeat (with_reducible (first | exact Chg.refl _ _ | exact Nat.le_refl _ | exact Chg.ofExt (by assumption) | refine Chg.trans0 ?_ (by assumption) | refine Chg.extS ?_ _ | refine Chg.alloc ?_ _ | refine Chg.drew ?_ | refine Chg.setCellE ?_ ?_ _ | refine le_addk ?_ _ | refine le_ext ?_ | refine le_alloc ?_ _ | refine le_setC ?_ _ _ | refine le_drew ?_ | assumption | (refine Nat.le_of_lt ?_; omega) | omega)))⟩
    · have e := Hj.out
      rw [all_endk hlt] at e
      have He := Lib.hid e
      clear e
      go_wp2
      go_ret
      exact ⟨by rw [← He.out]; rfl, hy⟩
def rowB (m : Nat) (r : List (Int × Int)) : Bool := decide (r.length = m) && allV r
def sqB (xs : List (List (Int × Int))) (n m : Nat) : Bool := xs.all (rowB m) && decide (xs.length = n)
theorem rowB_t {m : Nat} {r : List (Int × Int)} (h : rowB m r = true) : r.length = m ∧ allV r = true := by
  unfold rowB at h
  rw [Bool.and_eq_true] at h
  exact ⟨by simpa using h.1, h.2⟩
theorem rowB_len {m : Nat} {r : List (Int × Int)} (h : ¬ r.length = m) : rowB m r = false := by
  unfold rowB; rw [decide_eq_false h, Bool.false_and]
theorem rowB_eq {m : Nat} {r : List (Int × Int)} (h : r.length = m) : rowB m r = allV r := by
  unfold rowB; rw [decide_eq_true h, Bool.true_and]
theorem int_bnef {a b : Nat} (h : ¬ a = b) : ((a : Int) != (b : Int)) = true := by simp; omega
theorem int_bnet {a b : Nat} (h : a = b) : ((a : Int) != (b : Int)) = false := by simp; omega
set_option maxHeartbeats 1000000 in
theorem l13Square_any {A : Option Addr} {c n m : Nat} {xs : List (List (Int × Int))} {w : World} (hx : xs.length ≤ 1000000000) (h1 : RRR w A xs) (hxl : ∀ x ∈ xs, x.length ≤ 1000000000) (_hn : n ≤ 1000000000) (_hm : m ≤ 1000000000) :
    Calls Try.prog 33 #[.slice A xs.length c, .int .i64 n, .int .i64 m] w fun e w' => e = .returned (.bool (sqB xs n m)) ∧ ∃ y, w' = ext w y := by
  have Hxl := Lib.hid hxl
  clear hxl
  go_enter Try.func33, Try.ntmps33
  go_wp2
  go_loopw [7] (fun i wr => ∃ k : Nat, i = .int .i64 k ∧ k ≤ xs.length ∧ (xs.drop k).all (rowB m) = xs.all (rowB m) ∧ ∃ y, wr = ext w y) (fun i _ => xs.length - (intOf i).toNat)
  case atStart => exact ⟨0, rfl, by omega, by simp, refl_ext w⟩
  case round =>
    obtain ⟨k, rfl, hk, hj, hy⟩ := hrel
    have Hj := Lib.hid hj
    clear hj
    have h1' := h1.toExt hy
    by_cases hlt : k < xs.length
    · obtain ⟨b, o, A1, c1, rfl, hb, hc, hv⟩ := h1'.atV hlt
      have hle := Hxl.out xs[k] (List.getElem_mem hlt)
      have e := Hj.out
      rw [all_step hlt] at e
      by_cases hlm : xs[k].length = m
      · rw [rowB_eq hlm] at e
        have hq := int_bnet hlm
        have hl1 : xs[k].length ≤ m := by omega
        have hl2 : m ≤ xs[k].length := by omega
        have He := Lib.hid e
        clear e hlm
        go_wp2
        go_loopw [8] (fun i ws => ∃ j : Nat, i = .int .i64 j ∧ j ≤ xs[k].length ∧ (xs[k].drop j).all isVR = allV xs[k] ∧ ∃ y, ws = ext wr y) (fun i _ => xs[k].length - (intOf i).toNat)
        case atStart => exact ⟨0, rfl, by omega, by simp [allV], refl_ext _⟩
        case round =>
          obtain ⟨j, rfl, hk2, hj, hy2⟩ := hrel
          have Hj2 := Lib.hid hj
          clear hj
          obtain ⟨y2, rfl⟩ := hy2
          have hb2 := lt_ext (x := y2) hb
          by_cases hlt2 : j < xs[k].length
          · obtain ⟨b3, o3, rfl, hb3, hc3, hd3⟩ := (hv.ext (x := y2)).atR hlt2
            have e := Hj2.out
            rw [all_step hlt2] at e
            cases hvr : isVR xs[k][j] with
            | true =>
              rw [hvr, Bool.true_and] at e
              have He2 := Lib.hid e
              have Hv := Lib.hid (show isVR (xs[k][j].1, xs[k][j].2) = true from hvr)
              clear e hvr
              go_wp2_with (go_at_call 23; refine specIsValidRational_any.mono ?_; rintro e w1 ⟨rfl, y1, rfl⟩; rw [Hv.out])
              exact ⟨⟨j + 1, by go_num, by omega, He2.out, (by refine Chg.isExt (F := []) ?_ (refl_ext _) (by simp); repeat (with_reducible (first | exact Chg.refl _ _ | exact Nat.le_refl _ | exact Chg.ofExt (by assumption) | refine Chg.trans0 ?_ (by assumption) | refine Chg.extS ?_ _ | refine Chg.alloc ?_ _ | refine Chg.drew ?_ | refine Chg.setCellE ?_ ?_ _ | refine le_addk ?_ _ | refine le_ext ?_ | refine le_alloc ?_ _ | refine le_setC ?_ _ _ | refine le_drew ?_ | assumption | (refine Nat.le_of_lt ?_; omega) | omega)))⟩, by simp [intOf]; omega⟩
            | false =>
              rw [hvr, Bool.false_and] at e
              have e2 := He.out
              rw [← e, Bool.false_and] at e2
              have He2 := Lib.hid e2
              have Hv := Lib.hid (show isVR (xs[k][j].1, xs[k][j].2) = false from hvr)
              clear e e2 hvr
              go_wp2_with (go_at_call 23; refine specIsValidRational_any.mono ?_; rintro e w1 ⟨rfl, y1, rfl⟩; rw [Hv.out])
              go_ret
              exact ⟨by unfold sqB; rw [← He2.out]; rfl, trans_ext hy (by refine Chg.isExt (F := []) ?_ (refl_ext _) (by simp); repeat (with_reducible (first | exact Chg.refl _ _ | exact Nat.le_refl _ | exact Chg.ofExt (by assumption) | refine Chg.trans0 ?_ (by assumption) | refine Chg.extS ?_ _ | refine Chg.alloc ?_ _ | refine Chg.drew ?_ | refine Chg.setCellE ?_ ?_ _ | refine le_addk ?_ _ | refine le_ext ?_ | refine le_alloc ?_ _ | refine le_setC ?_ _ _ | refine le_drew ?_ | assumption | (refine Nat.le_of_lt ?_; omega) | omega)))⟩
          · have e := Hj2.out
            rw [all_endk hlt2] at e
            have e2 := He.out
            rw [← e, Bool.true_and] at e2
            have He2 := Lib.hid e2
            clear e e2
            go_wp2
            exact ⟨⟨k + 1, by go_num, by omega, He2.out, trans_ext hy ⟨_, rfl⟩⟩, by simp [intOf]; omega⟩
      · rw [rowB_len hlm, Bool.false_and] at e
        have hq := int_bnef hlm
        have He := Lib.hid e
        clear e hlm
        go_wp2
        go_ret
        exact ⟨by unfold sqB; rw [← He.out]; rfl, hy⟩
    · have e := Hj.out
      rw [all_endk hlt] at e
      have He := Lib.hid e
      clear e
      by_cases hn' : xs.length = n
      · have hq : ((xs.length : Int) == (n : Int)) = true := by simp [hn']
        have HN := Lib.hid hn'
        clear hn'
        go_wp2
        go_ret
        exact ⟨by unfold sqB; rw [← He.out, decide_eq_true HN.out]; rfl, hy⟩
      · have hq : ((xs.length : Int) == (n : Int)) = false := by simp; omega
        have HN := Lib.hid hn'
        clear hn'
        go_wp2
        go_ret
        exact ⟨by unfold sqB; rw [← He.out, decide_eq_false HN.out]; rfl, hy⟩
end Go.Proofs.Ytbaheampmiecmaa
