/- Sums of rational numbers; of the program and of the reference alike. -/
import Derived.Test.YtgehnacmgofobaaDoorRatOps
import Derived.Test.YtgehnacmgofobaaDoorApp
namespace Go.Proofs.YtgehnacmgofobaaDoor
open Go.RowKit

def sumR : Int × Int → List (Int × Int) → Option (Int × Int)
  | a, [] => some a
  | a, x :: xs => match addR a x with
    | none => none
    | some s => sumR s xs
theorem sumR_some {a s : Int × Int} {xs : List (Int × Int)} {k : Nat} (h : k < xs.length) (e : addR a xs[k] = some s) : sumR a (xs.drop k) = sumR s (xs.drop (k + 1)) := by
  rw [List.drop_eq_getElem_cons h, sumR, e]
theorem sumR_none {a : Int × Int} {xs : List (Int × Int)} {k : Nat} (h : k < xs.length) (e : addR a xs[k] = none) : sumR a (xs.drop k) = none := by
  rw [List.drop_eq_getElem_cons h, sumR, e]
set_option maxHeartbeats 1000000 in
theorem SumRationals_any {A : Option Addr} {c : Nat} {xs : List (Int × Int)} {w : World} (hx : xs.length ≤ 1000000000) (h1 : RR w A xs) :
    Calls Tryd.prog 28 #[.slice A xs.length c] w fun e w' => e = .returned (.tuple #[.agg #[.int .i64 ((sumR (0, 1) xs).getD (0, 0)).1, .int .i64 ((sumR (0, 1) xs).getD (0, 0)).2], .bool (sumR (0, 1) xs).isSome]) ∧ ∃ y, w' = ext w y := by
  go_enter Tryd.func28, Tryd.ntmps28
  go_wp2
  go_loopw [12] (fun i wr => ∃ (k : Nat) (a : Int × Int), i = .int .i64 k ∧ k ≤ xs.length ∧ BoxAt wr w.heap.size #[.int .i64 0, .int .i64 0] ∧ BoxAt wr (w.heap.size + 1) #[.int .i64 a.1, .int .i64 a.2] ∧ (∃ y, wr = ext w y) ∧ sumR a (xs.drop k) = sumR (0, 1) xs) (fun i _ => xs.length - (intOf i).toNat)
  case atStart => exact ⟨0, (0, 1), rfl, by omega, (BoxAt.new _ _ _).alloc _, by simpa using BoxAt.new (w.alloc _) #[.int .i64 0, .int .i64 1] 47, (by refine Chg.isExt (F := []) ?_ (refl_ext _) (by simp); repeat (with_reducible (first | exact Chg.refl _ _ | exact Nat.le_refl _ | exact Chg.ofExt (by assumption) | refine Chg.trans0 ?_ (by assumption) | refine Chg.extS ?_ _ | refine Chg.alloc ?_ _ | refine Chg.drew ?_ | refine Chg.setCellE ?_ ?_ _ | refine le_addk ?_ _ | refine le_ext ?_ | refine le_alloc ?_ _ | refine le_setC ?_ _ _ | refine le_drew ?_ | assumption | (refine Nat.le_of_lt ?_; omega) | omega))), by simp⟩
  case round =>
    obtain ⟨k, a, rfl, hk, B0, B1, hy, hj⟩ := hrel
    have Hj := Lib.hid hj
    clear hj
    obtain ⟨_, l0, b0, b0', f0⟩ := box2 B0
    obtain ⟨_, l1, b1, b1', f1⟩ := box2 B1
    have h1' := h1.toExt hy
    by_cases hlt : k < xs.length
    · obtain ⟨b, o, rfl, hb, hc, hd⟩ := h1'.atR hlt
      cases hs : addR a xs[k] with
      | some s =>
        have Hs := Lib.hid hs
        clear hs
        go_wp2_with (go_at_call 46; refine AddRational_any.mono ?_; rintro e w2 ⟨rfl, hx2⟩; rw [Hs.out]; have B2 := (B0.alloc _).toExt hx2; have B3 := (B1.alloc _).toExt hx2; obtain ⟨_, l2, b2, b2', f2⟩ := box2 B2; obtain ⟨_, l3, b3, b3', f3⟩ := box2 B3)
        exact ⟨⟨k + 1, s, by go_num, by omega, (B2.set2' (by omega)).alloc _, B3.set2.alloc _, (by refine Chg.isExt (F := []) ?_ (refl_ext _) (by simp); repeat (with_reducible (first | exact Chg.refl _ _ | exact Nat.le_refl _ | exact Chg.ofExt (by assumption) | refine Chg.trans0 ?_ (by assumption) | refine Chg.extS ?_ _ | refine Chg.alloc ?_ _ | refine Chg.drew ?_ | refine Chg.setCellE ?_ ?_ _ | refine le_addk ?_ _ | refine le_ext ?_ | refine le_alloc ?_ _ | refine le_setC ?_ _ _ | refine le_drew ?_ | assumption | (refine Nat.le_of_lt ?_; omega) | omega))), by rw [← sumR_some hlt Hs.out]; exact Hj.out⟩, by simp [intOf]; omega⟩
      | none =>
        have Hs := Lib.hid hs
        clear hs
        go_wp2_with (go_at_call 46; refine AddRational_any.mono ?_; rintro e w2 ⟨rfl, hx2⟩; rw [Hs.out]; have B2 := (B0.alloc _).toExt hx2; have B3 := (B1.alloc _).toExt hx2; obtain ⟨_, l2, b2, b2', f2⟩ := box2 B2; obtain ⟨_, l3, b3, b3', f3⟩ := box2 B3)
        have e := Hj.out
        rw [sumR_none hlt Hs.out] at e
        exact bodyPost_ret (v := .tuple #[.agg #[.int .i64 0, .int .i64 0], .bool false]) (by simp [results, Tryd.results28, go_sem, b2, b2', l2]) rfl ⟨by rw [← e]; rfl, (by refine Chg.isExt (F := []) ?_ (refl_ext _) (by simp); repeat (with_reducible (first | exact Chg.refl _ _ | exact Nat.le_refl _ | exact Chg.ofExt (by assumption) | refine Chg.trans0 ?_ (by assumption) | refine Chg.extS ?_ _ | refine Chg.alloc ?_ _ | refine Chg.drew ?_ | refine Chg.setCellE ?_ ?_ _ | refine le_addk ?_ _ | refine le_ext ?_ | refine le_alloc ?_ _ | refine le_setC ?_ _ _ | refine le_drew ?_ | assumption | (refine Nat.le_of_lt ?_; omega) | omega)))⟩
    · go_wp2
      have e := Hj.out
      rw [List.drop_eq_nil_of_le (by omega), sumR] at e
      exact bodyPost_ret (v := .tuple #[.agg #[.int .i64 a.1, .int .i64 a.2], .bool true]) (by simp [results, Tryd.results28, go_sem, b0, b0']) rfl ⟨by rw [← e]; rfl, (by refine Chg.isExt (F := []) ?_ (refl_ext _) (by simp); repeat (with_reducible (first | exact Chg.refl _ _ | exact Nat.le_refl _ | exact Chg.ofExt (by assumption) | refine Chg.trans0 ?_ (by assumption) | refine Chg.extS ?_ _ | refine Chg.alloc ?_ _ | refine Chg.drew ?_ | refine Chg.setCellE ?_ ?_ _ | refine le_addk ?_ _ | refine le_ext ?_ | refine le_alloc ?_ _ | refine le_setC ?_ _ _ | refine le_drew ?_ | assumption | (refine Nat.le_of_lt ?_; omega) | omega)))⟩
set_option maxHeartbeats 1000000 in
theorem specSumRationals_any {A : Option Addr} {c : Nat} {xs : List (Int × Int)} {w : World} (hx : xs.length ≤ 1000000000) (h1 : RR w A xs) :
    Calls Tryd.prog 20 #[.slice A xs.length c] w fun e w' => e = .returned (.tuple #[.agg #[.int .i64 ((sumR (0, 1) xs).getD (0, 0)).1, .int .i64 ((sumR (0, 1) xs).getD (0, 0)).2], .bool (sumR (0, 1) xs).isSome]) ∧ ∃ y, w' = ext w y := by
  go_enter Tryd.func20, Tryd.ntmps20
  go_wp2
  go_loopw [5] (fun i wr => ∃ (k : Nat) (a : Int × Int), i = .int .i64 k ∧ k ≤ xs.length ∧ BoxAt wr w.heap.size #[.int .i64 0, .int .i64 0] ∧ BoxAt wr (w.heap.size + 1) #[.int .i64 a.1, .int .i64 a.2] ∧ (∃ y, wr = ext w y) ∧ sumR a (xs.drop k) = sumR (0, 1) xs) (fun i _ => xs.length - (intOf i).toNat)
  case atStart => exact ⟨0, (0, 1), rfl, by omega, (BoxAt.new _ _ _).alloc _, by simpa using BoxAt.new (w.alloc _) #[.int .i64 0, .int .i64 1] 47, (by refine Chg.isExt (F := []) ?_ (refl_ext _) (by simp); repeat (with_reducible (first | exact Chg.refl _ _ | exact Nat.le_refl _ | exact Chg.ofExt (by assumption) | refine Chg.trans0 ?_ (by assumption) | refine Chg.extS ?_ _ | refine Chg.alloc ?_ _ | refine Chg.drew ?_ | refine Chg.setCellE ?_ ?_ _ | refine le_addk ?_ _ | refine le_ext ?_ | refine le_alloc ?_ _ | refine le_setC ?_ _ _ | refine le_drew ?_ | assumption | (refine Nat.le_of_lt ?_; omega) | omega))), by simp⟩
  case round =>
    obtain ⟨k, a, rfl, hk, B0, B1, hy, hj⟩ := hrel
    have Hj := Lib.hid hj
    clear hj
    obtain ⟨_, l0, b0, b0', f0⟩ := box2 B0
    obtain ⟨_, l1, b1, b1', f1⟩ := box2 B1
    have h1' := h1.toExt hy
    by_cases hlt : k < xs.length
    · obtain ⟨b, o, rfl, hb, hc, hd⟩ := h1'.atR hlt
      cases hs : addR a xs[k] with
      | some s =>
        have Hs := Lib.hid hs
        clear hs
        go_wp2_with fail
        go_region_held3 (fun w' => (∀ a : Addr, a.block < wr.heap.size → w'.cell? a = wr.cell? a) ∧ ∃ y, w' = ext wr y) (first | exact heldE (by refine Chg.isExt (F := []) ?_ (refl_ext _) (by simp); repeat (with_reducible (first | exact Chg.refl _ _ | exact Nat.le_refl _ | exact Chg.ofExt (by assumption) | refine Chg.trans0 ?_ (by assumption) | refine Chg.extS ?_ _ | refine Chg.alloc ?_ _ | refine Chg.drew ?_ | refine Chg.setCellE ?_ ?_ _ | refine le_addk ?_ _ | refine le_ext ?_ | refine le_alloc ?_ _ | refine le_setC ?_ _ _ | refine le_drew ?_ | assumption | (refine Nat.le_of_lt ?_; omega) | omega)))) (first | (go_at_call 39; refine specAddRational_any.mono ?_; rintro e w2 ⟨rfl, hx2⟩; rw [Hs.out]; have B2 := B0.toExt (trans_ext (by repeat (with_reducible (first | exact refl_ext _ | exact alloc_ext _ _ | exact drew_ext _ | assumption | refine trans_ext ?_ (drew_ext _) | refine trans_ext ?_ (alloc_ext _ _) | refine trans_ext ?_ (by assumption)))) hx2); have B3 := B1.toExt (trans_ext (by repeat (with_reducible (first | exact refl_ext _ | exact alloc_ext _ _ | exact drew_ext _ | assumption | refine trans_ext ?_ (drew_ext _) | refine trans_ext ?_ (alloc_ext _ _) | refine trans_ext ?_ (by assumption)))) hx2); obtain ⟨_, l2, b2, b2', f2⟩ := box2 B2; obtain ⟨_, l3, b3, b3', f3⟩ := box2 B3; try (obtain ⟨_, l4, b4, b4', f4⟩ := box2 (BoxAt.toExt (BoxAt.new wr _ _).drew hx2))))
        go_wp2
        all_goals exact ⟨⟨k + 1, s, by go_num, by omega, (by repeat (with_reducible (first | assumption | exact BoxAt.new _ _ _ | apply BoxAt.set2 | refine BoxAt.set2' ?_ (by omega) | apply BoxAt.setP0 | apply BoxAt.setP1 | refine BoxAt.setO ?_ (by omega) | refine BoxAt.alloc ?_ _ | refine BoxAt.drew ?_ | refine BoxAt.toExt ?_ (by assumption)))), (by repeat (with_reducible (first | assumption | exact BoxAt.new _ _ _ | apply BoxAt.set2 | refine BoxAt.set2' ?_ (by omega) | apply BoxAt.setP0 | apply BoxAt.setP1 | refine BoxAt.setO ?_ (by omega) | refine BoxAt.alloc ?_ _ | refine BoxAt.drew ?_ | refine BoxAt.toExt ?_ (by assumption)))), (by refine Chg.isExt (F := []) ?_ (refl_ext _) (by simp); repeat (with_reducible (first | exact Chg.refl _ _ | exact Nat.le_refl _ | exact Chg.ofExt (by assumption) | refine Chg.trans0 ?_ (by assumption) | refine Chg.extS ?_ _ | refine Chg.alloc ?_ _ | refine Chg.drew ?_ | refine Chg.setCellE ?_ ?_ _ | refine le_addk ?_ _ | refine le_ext ?_ | refine le_alloc ?_ _ | refine le_setC ?_ _ _ | refine le_drew ?_ | assumption | (refine Nat.le_of_lt ?_; omega) | omega))), by rw [← sumR_some hlt Hs.out]; exact Hj.out⟩, by simp [intOf]; omega⟩
      | none =>
        have Hs := Lib.hid hs
        clear hs
        go_wp2_with fail
        go_region_held3 (fun w' => (∀ a : Addr, a.block < wr.heap.size → w'.cell? a = wr.cell? a) ∧ ∃ y, w' = ext wr y) (first | exact heldE (by refine Chg.isExt (F := []) ?_ (refl_ext _) (by simp); repeat (with_reducible (first | exact Chg.refl _ _ | exact Nat.le_refl _ | exact Chg.ofExt (by assumption) | refine Chg.trans0 ?_ (by assumption) | refine Chg.extS ?_ _ | refine Chg.alloc ?_ _ | refine Chg.drew ?_ | refine Chg.setCellE ?_ ?_ _ | refine le_addk ?_ _ | refine le_ext ?_ | refine le_alloc ?_ _ | refine le_setC ?_ _ _ | refine le_drew ?_ | assumption | (refine Nat.le_of_lt ?_; omega) | omega)))) (first | (go_at_call 39; refine specAddRational_any.mono ?_; rintro e w2 ⟨rfl, hx2⟩; rw [Hs.out]; have B2 := B0.toExt (trans_ext (by repeat (with_reducible (first | exact refl_ext _ | exact alloc_ext _ _ | exact drew_ext _ | assumption | refine trans_ext ?_ (drew_ext _) | refine trans_ext ?_ (alloc_ext _ _) | refine trans_ext ?_ (by assumption)))) hx2); have B3 := B1.toExt (trans_ext (by repeat (with_reducible (first | exact refl_ext _ | exact alloc_ext _ _ | exact drew_ext _ | assumption | refine trans_ext ?_ (drew_ext _) | refine trans_ext ?_ (alloc_ext _ _) | refine trans_ext ?_ (by assumption)))) hx2); obtain ⟨_, l2, b2, b2', f2⟩ := box2 B2; obtain ⟨_, l3, b3, b3', f3⟩ := box2 B3; try (obtain ⟨_, l4, b4, b4', f4⟩ := box2 (BoxAt.toExt (BoxAt.new wr _ _).drew hx2))))
        go_wp2
        all_goals
          have e := Hj.out
          rw [sumR_none hlt Hs.out] at e
          have He := Lib.hid e
          clear e
        all_goals exact bodyPost_ret (v := .tuple #[.agg #[.int .i64 0, .int .i64 0], .bool false]) (by simp [results, Tryd.results20, go_sem, b2, b2', l2]) rfl ⟨by rw [← He.out]; rfl, (by refine Chg.isExt (F := []) ?_ (refl_ext _) (by simp); repeat (with_reducible (first | exact Chg.refl _ _ | exact Nat.le_refl _ | exact Chg.ofExt (by assumption) | refine Chg.trans0 ?_ (by assumption) | refine Chg.extS ?_ _ | refine Chg.alloc ?_ _ | refine Chg.drew ?_ | refine Chg.setCellE ?_ ?_ _ | refine le_addk ?_ _ | refine le_ext ?_ | refine le_alloc ?_ _ | refine le_setC ?_ _ _ | refine le_drew ?_ | assumption | (refine Nat.le_of_lt ?_; omega) | omega)))⟩
    · go_wp2
      have e := Hj.out
      rw [List.drop_eq_nil_of_le (by omega), sumR] at e
      exact bodyPost_ret (v := .tuple #[.agg #[.int .i64 a.1, .int .i64 a.2], .bool true]) (by simp [results, Tryd.results20, go_sem, b0, b0']) rfl ⟨by rw [← e]; rfl, (by refine Chg.isExt (F := []) ?_ (refl_ext _) (by simp); repeat (with_reducible (first | exact Chg.refl _ _ | exact Nat.le_refl _ | exact Chg.ofExt (by assumption) | refine Chg.trans0 ?_ (by assumption) | refine Chg.extS ?_ _ | refine Chg.alloc ?_ _ | refine Chg.drew ?_ | refine Chg.setCellE ?_ ?_ _ | refine le_addk ?_ _ | refine le_ext ?_ | refine le_alloc ?_ _ | refine le_setC ?_ _ _ | refine le_drew ?_ | assumption | (refine Nat.le_of_lt ?_; omega) | omega)))⟩
end Go.Proofs.YtgehnacmgofobaaDoor
