/- Marks looked for in a join forest. -/
import Derived.Test.YtoffbconbgipjaaForest
namespace Go.Proofs.Ytoffbconbgipjaa
open Go.RowKit
theorem heldJoinForest_any {A : Option Addr} {c n : Nat} {k0 : Int} {w : World} (hx : n ≤ 1000000000) (h1 : RI w A (marks k0 n)) (h0 : 0 ≤ k0) (hk0 : k0 ≤ 100000000000) :
    Calls Try.prog 42 #[.agg #[.slice A n c], .int .i64 k0] w fun e w' => e = .returned (.int .i64 (k0 + n)) ∧ ∃ y, w' = ext w y := by
  go_enter Try.func42, Try.ntmps42
  go_wp2_with (go_at_call 21; refine (heldIntS_any hx (h1.toExt (by refine Chg.isExt (F := []) ?_ (refl_ext _) (by simp); repeat (with_reducible (first | exact Chg.refl _ _ | exact Nat.le_refl _ | exact Chg.ofExt (by assumption) | refine Chg.trans0 ?_ (by assumption) | refine Chg.extS ?_ _ | refine Chg.alloc ?_ _ | refine Chg.drew ?_ | refine Chg.setCellE ?_ ?_ _ | refine le_addk ?_ _ | refine le_ext ?_ | refine le_alloc ?_ _ | refine le_setC ?_ _ _ | refine le_drew ?_ | assumption | (refine Nat.le_of_lt ?_; omega) | omega)))) h0 hk0).mono ?_; rintro e w' ⟨rfl, hx1⟩)
  go_ret
  exact ⟨rfl, (by refine Chg.isExt (F := []) ?_ (refl_ext _) (by simp); repeat (with_reducible (first | exact Chg.refl _ _ | exact Nat.le_refl _ | exact Chg.ofExt (by assumption) | refine Chg.trans0 ?_ (by assumption) | refine Chg.extS ?_ _ | refine Chg.alloc ?_ _ | refine Chg.drew ?_ | refine Chg.setCellE ?_ ?_ _ | refine le_addk ?_ _ | refine le_ext ?_ | refine le_alloc ?_ _ | refine le_setC ?_ _ _ | refine le_drew ?_ | assumption | (refine Nat.le_of_lt ?_; omega) | omega)))⟩
end Go.Proofs.Ytoffbconbgipjaa
