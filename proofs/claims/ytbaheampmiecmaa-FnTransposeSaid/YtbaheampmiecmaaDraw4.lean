/- The reference's draws of matrices: a small rational. -/
import Derived.Test.YtbaheampmiecmaaDraw2
import Derived.Test.YtbaheampmiecmaaApp
namespace Go.Proofs.Ytbaheampmiecmaa
open Go.RowKit

set_option maxRecDepth 100000 in
set_option maxHeartbeats 4000000 in
theorem l13Small_any {g : Nat} {w0 w : World} (hc : Cur w0 w g) :
    Calls Try.prog 40 #[.pointer (some ⟨g, 0, none⟩)] w fun e w' => ∃ r : Int × Int, e = .returned (.agg #[.int .i64 r.1, .int .i64 r.2]) ∧ Cur w0 w' g ∧ Chg [g] w w' := by
  have hgw := hc.lt
  go_enter Try.func40, Try.ntmps40
  go_upto_region 1 with fail
  refine wp_name ?_
  intro W hW
  have xW : ∃ y, W = ext w y := by rw [hW.out]; exact (by refine Chg.isExt (F := []) ?_ (refl_ext _) (by simp); repeat (with_reducible (first | exact Chg.refl _ _ | exact Nat.le_refl _ | exact Chg.ofExt (by assumption) | refine Chg.trans0 ?_ (by assumption) | refine Chg.extS ?_ _ | refine Chg.alloc ?_ _ | refine Chg.drew ?_ | refine Chg.setCellE ?_ ?_ _ | refine le_addk ?_ _ | refine le_ext ?_ | refine le_alloc ?_ _ | refine le_setC ?_ _ _ | refine le_drew ?_ | assumption | (refine Nat.le_of_lt ?_; omega) | omega)))
  have BW0 : BoxAt W (w.heap.size) #[.int .i64 0, .int .i64 0] := by rw [hW.out]; refine ⟨?_, fun j => ?_, fun j => ?_⟩ <;> go_simp
  obtain ⟨lW0, bW0, fW0⟩ := BW0
  have cW0_0 : W.cell? ⟨w.heap.size, 0, none⟩ = some (.int .i64 0) := bW0 0
  have cW0_1 : W.cell? ⟨w.heap.size, 1, none⟩ = some (.int .i64 0) := bW0 1
  clear hW
  have RW : BoxAt W w.heap.size #[.int .i64 0, .int .i64 0] := ⟨lW0, bW0, fW0⟩
  have hcW := hc.toExt xW
  have hzW := size_of_ext xW
  have hcWx := Chg.ofExt (F := [g]) xW
  have ng : w.heap.size ∉ [g] := fun h => by simp at h; omega
  clear bW0 fW0 cW0_0 cW0_1
  go_wp2_with fail
  refine (l1Below_any hcW (by omega) (by omega)).mono ?_
  rintro e w1 ⟨x1, rfl, hx0, hx1, hc1, hC1⟩
  have hg1 := hc1.lt
  go_wp2_with fail
  refine (l1PickInt_any (hc1.toExt (alloc_ext _ _)) (by omega) (by omega) (BoxAt.new _ _ _) (by intro j hj; rcases j with _ | _ | _ | _ | _ | j <;> first | exact ⟨_, rfl⟩ | omega) (by first | omega | (simp; omega))).mono ?_
  rintro e w2 ⟨x5, j5, rfl, hj5, hx5, hc5, hC5⟩
  have hb5 : 1 ≤ x5 ∧ x5 ≤ 4 := (by rcases j5 with _ | _ | _ | _ | _ | j <;> simp at hx5 <;> omega)
  obtain ⟨p5, q5⟩ := hb5
  clear hx5
  go_wp2_with fail
  refine (specNewRational_any (by omega) (by omega) (by omega) (by omega)).mono ?_
  rintro e w3 ⟨rfl, hx3⟩
  obtain ⟨r, hr⟩ : ∃ r, (newR (x1 - 3) x5).getD (0, 0) = r := ⟨_, rfl⟩
  rw [hr]
  have hC3 : Chg [g] w w3 := (((hcWx.trans hC1 (fun x hx => .inl hx)).trans0 (alloc_ext _ _)).trans hC5 (fun x hx => .inl hx)).trans0 hx3
  have hc3 := hc5.toExt hx3
  have R3 := (((RW.chg hC1 ng).toExt (alloc_ext _ _)).chg hC5 ng).toExt hx3
  obtain ⟨l4, b4, b4', f4⟩ := bx2 R3
  have HC := Lib.hid hc3
  have hwg : w0.heap.size ≤ w.heap.size := size_of_ext hc.2.1
  have HC3 := Lib.hid hC3
  clear hr RW hcW hcWx hc1 hC1 hc5 hC5 hC3 hc3 R3
  go_wp2
  exact bodyPost_ret (v := .agg #[.int .i64 r.1, .int .i64 r.2]) (by simp [results, Try.results40, go_sem, *]) rfl ⟨r, rfl, (HC.out.chg (F := [w.heap.size]) ((((Chg.refl [w.heap.size] w3).setCell (.inl (by simp)) _)).setCell (.inl (by simp)) _) (by simp; omega) (by simpa using hwg)).toExt (alloc_ext _ _), ((HC3.out.setCell (.inr (by simp)) _).setCell (.inr (by simp)) _).alloc _⟩
end Go.Proofs.Ytbaheampmiecmaa
