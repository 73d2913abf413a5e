/- The reference's draws of rationals and of weights. -/
import Derived.Test.YthhdmdmjadpgjaaDraw
import Derived.Test.YthhdmdmjadpgjaaRatArith
import Derived.Test.YthhdmdmjadpgjaaRats
namespace Go.Proofs.Ythhdmdmjadpgjaa
open Go.RowKit

theorem Cur.lt {w0 w : World} {g : Nat} (h : Cur w0 w g) : g < w.heap.size := by
  obtain ⟨_, _, A, c, bs, i, h, hB, _⟩ := h
  exact hB.1
theorem bx2 {w : World} {B : Nat} {u v : Value} (h : BoxAt w B #[u, v]) : B < w.heap.size ∧ w.cell? ⟨B, 0, none⟩ = some u ∧ w.cell? ⟨B, 1, none⟩ = some v ∧ ∀ j, w.frozen? ⟨B, j, none⟩ = false := ⟨h.1, h.2.1 0, h.2.1 1, h.2.2⟩
set_option maxRecDepth 100000 in
set_option maxHeartbeats 4000000 in
theorem l2Rat_any {g : Nat} {w0 w : World} (hc : Cur w0 w g) :
    Calls Try.prog 26 #[.pointer (some ⟨g, 0, none⟩)] w fun e w' => ∃ r : Int × Int, e = .returned (.agg #[.int .i64 r.1, .int .i64 r.2]) ∧ Cur w0 w' g ∧ Chg [g] w w' := by
  have hgw := hc.lt
  go_enter Try.func26, Try.ntmps26
  go_upto_region 1 with fail
  refine wp_name ?_
  intro W hW
  have xW : ∃ y, W = ext w y := by rw [hW.out]; exact (by refine Chg.isExt (F := []) ?_ (refl_ext _) (by simp); repeat (with_reducible (first | exact Chg.refl _ _ | exact Nat.le_refl _ | exact Chg.ofExt (by assumption) | refine Chg.trans0 ?_ (by assumption) | refine Chg.extS ?_ _ | refine Chg.alloc ?_ _ | refine Chg.drew ?_ | refine Chg.setCellE ?_ ?_ _ | refine le_addk ?_ _ | refine le_ext ?_ | refine le_alloc ?_ _ | refine le_setC ?_ _ _ | refine le_drew ?_ | assumption | (refine Nat.le_of_lt ?_; omega) | omega)))
  have BW0 : BoxAt W (w.heap.size) #[.int .i64 0, .int .i64 0] := by rw [hW.out]; refine ⟨?_, fun j => ?_, fun j => ?_⟩ <;> go_simp
  obtain ⟨lW0, bW0, fW0⟩ := BW0
  have cW0_0 : W.cell? ⟨w.heap.size, 0, none⟩ = some (.int .i64 0) := bW0 0
  have cW0_1 : W.cell? ⟨w.heap.size, 1, none⟩ = some (.int .i64 0) := bW0 1
  clear hW
  have RW : BoxAt W w.heap.size #[.int .i64 0, .int .i64 0] := ⟨lW0, bW0, fW0⟩
  have hcW := hc.toExt xW
  have hzW := size_of_ext xW
  have hcWx := Chg.ofExt (F := [g]) xW
  have ng : w.heap.size ∉ [g] := fun h => by simp at h; omega
  clear bW0 fW0 cW0_0 cW0_1
  go_upto_region 2 with (first
    | (go_at_call 27; (with_reducible refine (l1Below_any hcW ?_ ?_).mono ?_); (focus (omega)); (focus (omega)); rintro e w1 ⟨x1, rfl, hx0, hx1, hc1, hC1⟩)
    | (go_at_call 27; (with_reducible refine (l1Below_any hc1 ?_ ?_).mono ?_); (focus (omega)); (focus (omega)); rintro e w2 ⟨x2, rfl, hy0, hy1, hc2, hC2⟩)
    | (go_at_call 43; refine (specNewRational_any (by omega) (by omega) (by omega) (by omega)).mono ?_; rintro e w3 ⟨rfl, hx3⟩))
  refine wp_name ?_
  intro wa hwa
  obtain ⟨r, hr⟩ : ∃ r : Int × Int, BoxAt wa w3.heap.size #[.int .i64 r.1, .int .i64 r.2] := ⟨_, by rw [hwa.out]; exact BoxAt.new _ _ _⟩
  have hxa : ∃ y, wa = ext w3 y := by rw [hwa.out]; exact alloc_ext _ _
  have hCa : Chg [g] w wa := (((hcWx.trans hC1 (fun x hx => .inl hx)).trans hC2 (fun x hx => .inl hx)).trans0 hx3).trans0 hxa
  have hca := (hc2.toExt hx3).toExt hxa
  have Ra := RW.chg (((hC1.trans hC2 (fun x hx => .inl hx)).trans0 hx3).trans0 hxa) ng
  have hz3 := size_of_ext hx3
  have hs1 := hC1.size
  have hs2 := hC2.size
  clear hwa hcW hcWx RW hc1 hc2 hC1 hC2
  obtain ⟨br, ebr⟩ : ∃ b, w3.heap.size = b := ⟨_, rfl⟩
  rw [ebr] at hr hz3 ⊢
  have nbr : br ∉ [g] := fun h => by simp at h; omega
  have nbw : br ≠ w.heap.size := by omega
  have nbw2 : w.heap.size ≠ br := by omega
  have nbg : br ≠ g := by omega
  have nbz : w.heap.size ≤ br := by omega
  clear ebr hxa hx3 hs1 hs2 hzW lW0
  go_wp2_with fail
  refine (l1Once_any hca (by omega) (by omega)).mono ?_
  rintro e w4 ⟨t, rfl, hc4, hC4⟩
  have hr4 := hr.chg hC4 nbr
  have Ra4 := Ra.chg hC4 ng
  have hC4' := hCa.trans hC4 (fun x hx => .inl hx)
  obtain ⟨l4, b4, b4', f4⟩ := bx2 hr4
  obtain ⟨l5, c4, c4', f5⟩ := bx2 Ra4
  have HC4 := Lib.hid hC4'
  have HC := Lib.hid hc4
  clear hr Ra hCa hca hC4 hC4' hc4
  cases t with
  | false =>
    go_wp2
    exact bodyPost_ret (v := .agg #[.int .i64 r.1, .int .i64 r.2]) (by simp [results, Try.results26, go_sem, *]) rfl ⟨r, rfl, HC.out.chg (F := [w.heap.size]) ((((Chg.refl [w.heap.size] w4).setCell (.inl (by simp)) _)).setCell (.inl (by simp)) _) (by simp; omega) (by simp; exact Nat.le_trans HC.out.1 (by omega)), (HC4.out.setCell (.inr (by simp)) _).setCell (.inr (by simp)) _⟩
  | true =>
    have hg4 := HC.out.lt
    go_wp2_with fail
    refine (l1PickInt_any (HC.out.toExt (alloc_ext _ _)) (by omega) (by omega) (BoxAt.new _ _ _) (by intro j hj; rcases j with _ | _ | _ | _ | j <;> first | exact ⟨_, rfl⟩ | omega) (by have := hg4; first | omega | (simp; omega))).mono ?_
    rintro e w5 ⟨x5, j5, rfl, hj5, hx5, hc5, hC5⟩
    have hb5 : -1000000000 ≤ x5 ∧ x5 ≤ 1000000000 := (by rcases j5 with _ | _ | _ | _ | j <;> simp at hx5 <;> omega)
    obtain ⟨p5, q5⟩ := hb5
    have hr5 := (hr4.toExt (alloc_ext _ _)).chg hC5 nbr
    have Ra5 := (Ra4.toExt (alloc_ext _ _)).chg hC5 ng
    have hg5 := hc5.lt
    clear hx5
    go_wp2_with fail
    refine (l1PickInt_any (hc5.toExt (alloc_ext _ _)) (by omega) (by omega) (BoxAt.new _ _ _) (by intro j hj; rcases j with _ | _ | _ | _ | j <;> first | exact ⟨_, rfl⟩ | omega) (by have := hg4; first | omega | (simp; omega))).mono ?_
    rintro e w6 ⟨x6, j6, rfl, hj6, hx6, hc6, hC6⟩
    have hb6 : 1 ≤ x6 ∧ x6 ≤ 1000000000 := (by rcases j6 with _ | _ | _ | j <;> simp at hx6 <;> omega)
    obtain ⟨p6, q6⟩ := hb6
    have hr6 := (hr5.toExt (alloc_ext _ _)).chg hC6 nbr
    have Ra6 := (Ra5.toExt (alloc_ext _ _)).chg hC6 ng
    clear hx6
    go_wp2_with fail
    refine (specNewRational_any (by omega) (by omega) (by omega) (by omega)).mono ?_
    rintro e w7 ⟨rfl, hx7⟩
    have hr7 := hr6.toExt hx7
    have Ra7 := Ra6.toExt hx7
    obtain ⟨l7, b7, b7', f7⟩ := bx2 hr7
    obtain ⟨l8, c7, c7', f8⟩ := bx2 Ra7
    go_wp2
    have hc7 := hc6.toExt hx7
    have hC7 : Chg [g] w w7 := ((((HC4.out.alloc _).trans hC5 (fun x hx => .inl hx)).alloc _).trans hC6 (fun x hx => .inl hx)).trans0 hx7
    exact bodyPost_ret (v := .agg #[.int .i64 ((newR x5 x6).getD (0, 0)).1, .int .i64 ((newR x5 x6).getD (0, 0)).2]) (by simp [results, Try.results26, go_sem, *]) rfl ⟨(newR x5 x6).getD (0, 0), rfl, hc7.chg (F := [br, w.heap.size]) (((((Chg.refl [br, w.heap.size] w7).setCell (.inl (by simp)) _).setCell (.inl (by simp)) _).setCell (.inl (by simp)) _).setCell (.inl (by simp)) _) (by simp; omega) (by simp; exact ⟨Nat.le_trans HC.out.1 (by omega), Nat.le_trans HC.out.1 (by omega)⟩), (((hC7.setCell (.inr (by simpa using nbz)) _).setCell (.inr (by simpa using nbz)) _).setCell (.inr (by simp)) _).setCell (.inr (by simp)) _⟩
set_option maxRecDepth 100000 in
set_option maxHeartbeats 8000000 in
theorem l2Any_any {g : Nat} {w0 w : World} (hc : Cur w0 w g) :
    Calls Try.prog 19 #[.pointer (some ⟨g, 0, none⟩)] w fun e w' => ∃ r : Int × Int, e = .returned (.agg #[.int .i64 r.1, .int .i64 r.2]) ∧ Cur w0 w' g ∧ Chg [g] w w' := by
  have hgw := hc.lt
  go_enter Try.func19, Try.ntmps19
  go_upto_region 1 with fail
  refine wp_name ?_
  intro W hW
  have xW : ∃ y, W = ext w y := by rw [hW.out]; exact (by refine Chg.isExt (F := []) ?_ (refl_ext _) (by simp); repeat (with_reducible (first | exact Chg.refl _ _ | exact Nat.le_refl _ | exact Chg.ofExt (by assumption) | refine Chg.trans0 ?_ (by assumption) | refine Chg.extS ?_ _ | refine Chg.alloc ?_ _ | refine Chg.drew ?_ | refine Chg.setCellE ?_ ?_ _ | refine le_addk ?_ _ | refine le_ext ?_ | refine le_alloc ?_ _ | refine le_setC ?_ _ _ | refine le_drew ?_ | assumption | (refine Nat.le_of_lt ?_; omega) | omega)))
  have BW0 : BoxAt W (w.heap.size) #[.int .i64 0, .int .i64 0] := by rw [hW.out]; refine ⟨?_, fun j => ?_, fun j => ?_⟩ <;> go_simp
  obtain ⟨lW0, bW0, fW0⟩ := BW0
  have cW0_0 : W.cell? ⟨w.heap.size, 0, none⟩ = some (.int .i64 0) := bW0 0
  have cW0_1 : W.cell? ⟨w.heap.size, 1, none⟩ = some (.int .i64 0) := bW0 1
  clear hW
  have RW : BoxAt W w.heap.size #[.int .i64 0, .int .i64 0] := ⟨lW0, bW0, fW0⟩
  have hcW := hc.toExt xW
  have hcWx := Chg.ofExt (F := [g]) xW
  have ng : w.heap.size ∉ [g] := fun h => by simp at h; omega
  clear bW0 fW0 cW0_0 cW0_1
  go_upto_region 2 with (go_at_call 26; refine (l2Rat_any hcW).mono ?_; rintro e w3 ⟨r0, rfl, hc3, hC3⟩)
  refine wp_name ?_
  intro wa hwa
  have hr : BoxAt wa w3.heap.size #[.int .i64 r0.1, .int .i64 r0.2] := by rw [hwa.out]; exact BoxAt.new _ _ _
  have hxa : ∃ y, wa = ext w3 y := by rw [hwa.out]; exact alloc_ext _ _
  have hCa : Chg [g] w wa := (hcWx.trans hC3 (fun x hx => .inl hx)).trans0 hxa
  have hca := hc3.toExt hxa
  have Ra := RW.chg (hC3.trans0 hxa) ng
  have hs3 := hC3.size
  clear hwa hcW hcWx RW hc3 hC3
  obtain ⟨br, ebr⟩ : ∃ b, w3.heap.size = b := ⟨_, rfl⟩
  rw [ebr] at hr hs3 ⊢
  have nbr : br ∉ [g] := fun h => by simp at h; omega
  have nbw : br ≠ w.heap.size := by omega
  have nbw2 : w.heap.size ≠ br := by omega
  have nbg : br ≠ g := by omega
  have nbz : w.heap.size ≤ br := by omega
  clear ebr hxa lW0
  go_wp2_with fail
  refine (l1Below_any hca (by omega) (by omega)).mono ?_
  rintro e w4 ⟨x, rfl, hx0, hx1, hc4, hC4⟩
  have hr4 := hr.chg hC4 nbr
  have Ra4 := Ra.chg hC4 ng
  have hC4' := hCa.trans hC4 (fun x hx => .inl hx)
  obtain ⟨l4, b4, b4', f4⟩ := bx2 hr4
  obtain ⟨l5, c4, c4', f5⟩ := bx2 Ra4
  have HC4 := Lib.hid hC4'
  have HC := Lib.hid hc4
  have hg4 := HC.out.lt
  clear hr Ra hCa hca hC4 hC4' hc4
  have hSet2 : ∀ (W7 : World) (u v : Value), Cur w0 W7 g → Cur w0 ((W7.setCell ⟨w.heap.size, 0, none⟩ u).setCell ⟨w.heap.size, 1, none⟩ v) g := fun W7 u v hc => hc.chg (F := [w.heap.size]) ((((Chg.refl [w.heap.size] W7).setCell (.inl (by simp)) _)).setCell (.inl (by simp)) _) (by simp; omega) (by simp; exact Nat.le_trans hc.1 (by omega))
  have hSetr : ∀ (W7 : World) (k : Nat) (u : Value), Cur w0 W7 g → Cur w0 (W7.setCell ⟨br, k, none⟩ u) g := fun W7 k u hc => hc.chg (F := [br]) ((Chg.refl [br] W7).setCell (.inl (by simp)) _) (by simp; omega) (by simp; exact Nat.le_trans hc.1 (by omega))
  have HSet2 := Lib.hid hSet2
  have HSetr := Lib.hid hSetr
  clear hSet2 hSetr
  by_cases h0 : x = 0
  · have q0 : (x == 0) = true := by simp [h0]
    clear h0
    go_wp2_with (go_at_call 38; refine (l1PickInt_any (HC.out.toExt (alloc_ext _ _)) (by omega) (by omega) (BoxAt.new _ _ _) (by intro j hj; rcases j with _ | _ | _ | _ | j <;> first | exact ⟨_, rfl⟩ | omega) (by have := hg4; first | omega | (simp; omega))).mono ?_; rintro e w5 ⟨x5, j5, rfl, hj5, hx5, hc5, hC5⟩; have hr5 := (hr4.toExt (alloc_ext _ _)).chg hC5 nbr; have Ra5 := (Ra4.toExt (alloc_ext _ _)).chg hC5 ng; obtain ⟨l7, b7, b7', f7⟩ := bx2 hr5; obtain ⟨l8, c7, c7', f8⟩ := bx2 Ra5; clear hx5)
    have hC7 : Chg [g] w w5 := (HC4.out.alloc _).trans hC5 (fun x hx => .inl hx)
    exact bodyPost_ret (v := .agg #[.int .i64 r0.1, .int .i64 x5]) (by simp [results, Try.results19, go_sem, *]) rfl ⟨(r0.1, x5), rfl, HSet2.out _ _ _ (HSetr.out _ _ _ hc5), ((hC7.setCell (.inr (by simpa using nbz)) _).setCell (.inr (by simp)) _).setCell (.inr (by simp)) _⟩
  · have q0 : (x == 0) = false := by simp [h0]
    by_cases h1 : x = 1
    · have q1 : (x == 1) = true := by simp [h1]
      clear h0 h1
      go_wp2_with (go_at_call 38; refine (l1PickInt_any (HC.out.toExt (alloc_ext _ _)) (by omega) (by omega) (BoxAt.new _ _ _) (by intro j hj; rcases j with _ | _ | _ | _ | j <;> first | exact ⟨_, rfl⟩ | omega) (by have := hg4; first | omega | (simp; omega))).mono ?_; rintro e w5 ⟨x5, j5, rfl, hj5, hx5, hc5, hC5⟩; have hr5 := (hr4.toExt (alloc_ext _ _)).chg hC5 nbr; have Ra5 := (Ra4.toExt (alloc_ext _ _)).chg hC5 ng; obtain ⟨l7, b7, b7', f7⟩ := bx2 hr5; obtain ⟨l8, c7, c7', f8⟩ := bx2 Ra5; clear hx5)
      have hC7 : Chg [g] w w5 := (HC4.out.alloc _).trans hC5 (fun x hx => .inl hx)
      exact bodyPost_ret (v := .agg #[.int .i64 x5, .int .i64 r0.2]) (by simp [results, Try.results19, go_sem, *]) rfl ⟨(x5, r0.2), rfl, HSet2.out _ _ _ (HSetr.out _ _ _ hc5), ((hC7.setCell (.inr (by simpa using nbz)) _).setCell (.inr (by simp)) _).setCell (.inr (by simp)) _⟩
    · have q1 : (x == 1) = false := by simp [h1]
      clear h0 h1
      go_wp2
      exact bodyPost_ret (v := .agg #[.int .i64 r0.1, .int .i64 r0.2]) (by simp [results, Try.results19, go_sem, *]) rfl ⟨r0, rfl, HSet2.out _ _ _ HC.out, (HC4.out.setCell (.inr (by simp)) _).setCell (.inr (by simp)) _⟩
end Go.Proofs.Ythhdmdmjadpgjaa
