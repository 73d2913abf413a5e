/- Contracts of functions that the statement reaches. -/
import Derived.Test.YtbjpkfgkmilkdaaL01
import Derived.Test.YtbjpkfgkmilkdaaL02
import Derived.Test.YtbjpkfgkmilkdaaRows
import Derived.Deep.RegionLaw
namespace Go.Proofs.Ytbjpkfgkmilkdaa
open Go.RowKit
theorem tR : SlT Try.prog 26 67 2 16 (.agg #[.int .i64 0, .int .i64 0]) := ⟨Try.underlying26, by kernel_rfl, rfl, by omega⟩
set_option maxHeartbeats 400000 in
theorem specEqualRationals_any {A A' : Option Addr} {c c' : Nat} {xs ys : List (Int × Int)} {w : World} (hx : xs.length ≤ 1000000000) (h1 : RR w A xs) (hy : ys.length ≤ 1000000000) (h2 : RR w A' ys) :
    Calls Try.prog 20 #[.slice A xs.length c, .slice A' ys.length c'] w fun e w' => e = .returned (.bool (decide (xs = ys))) ∧ ∃ y, w' = ext w y := by
  by_cases hl : xs.length = ys.length
  · have hn : ((xs.length : Int) != (ys.length : Int)) = false := by simp [hl]
    go_enter Try.func20, Try.ntmps20
    go_wp2
    go_loopw [5] (fun i wr => ∃ k : Nat, i = .int .i64 k ∧ k ≤ xs.length ∧ xs.take k = ys.take k ∧ ∃ y, wr = ext w y) (fun i _ => xs.length - (intOf i).toNat)
    case atStart => exact ⟨0, rfl, by omega, by simp, refl_ext w⟩
    case round =>
      obtain ⟨k, rfl, hk, ht, y, rfl⟩ := hrel
      have Ht := Lib.hid ht
      clear ht
      by_cases hlt : k < xs.length
      · obtain ⟨b, o, rfl, hb, hc, hd⟩ := h1.atR hlt
        obtain ⟨b', o', rfl, hb', hc', hd'⟩ := h2.atR (k := k) (by omega)
        by_cases he : xs[k] = ys[k]
        · have He := Lib.hid he
          have hq : xs[k].1 = ys[k].1 ∧ xs[k].2 = ys[k].2 := by rw [he]; exact ⟨rfl, rfl⟩
          obtain ⟨hq1, hq2⟩ := hq
          clear he
          go_wp2
          refine wp_region_ext (by kernel_rfl) (by kernel_rfl) ?_
          repeat (go_big_quiet_step (fail))
          refine wpQuiet_nil ?_
          rintro _ ⟨z, rfl⟩
          go_wp2
          exact ⟨⟨k + 1, by go_num, by omega, take_snoc_eq _ _ Ht.out He.out, _, ext_ext⟩, by simp [intOf]; omega⟩
        · have He := Lib.hid he
          have hq : (xs[k].1 == ys[k].1) = false ∨ (xs[k].1 == ys[k].1) = true ∧ (xs[k].2 == ys[k].2) = false := by
            by_cases h : xs[k].1 = ys[k].1
            · exact .inr ⟨by simp [h], by simp; exact fun h2 => he (Prod.ext h h2)⟩
            · exact .inl (by simp [h])
          clear he
          rcases hq with hq1 | ⟨hq1, hq2⟩
          all_goals
            go_wp2
            refine wp_region_ext (by kernel_rfl) (by kernel_rfl) ?_
            repeat (go_big_quiet_step (fail))
            refine wpQuiet_nil ?_
            rintro _ ⟨z, rfl⟩
            go_wp2
            go_ret
            exact ⟨by rw [decide_eq_false (ne_of_at hlt (by omega) He.out)]; rfl, _, ext_ext⟩
      · go_wp2
        go_ret
        exact ⟨by rw [decide_eq_true (all_eq hl hlt Ht.out)]; rfl, y, rfl⟩
  · have hn : ((xs.length : Int) != (ys.length : Int)) = true := by simp; omega
    go_enter Try.func20, Try.ntmps20
    go_wp2
    go_ret
    exact ⟨by rw [decide_eq_false (by rintro rfl; exact hl rfl)]; rfl, refl_ext w⟩
end Go.Proofs.Ytbjpkfgkmilkdaa
namespace Go.Proofs.Ytbjpkfgkmilkdaa
open Go.RowKit
set_option maxRecDepth 100000 in
set_option maxHeartbeats 4000000 in
theorem l2Rat_any {g : Nat} {w0 w : World} (hc : Cur w0 w g) :
    Calls Try.prog 112 #[.pointer (some ⟨g, 0, none⟩)] w fun e w' => ∃ r : Int × Int, e = .returned (.agg #[.int .i64 r.1, .int .i64 r.2]) ∧ Cur w0 w' g ∧ Chg [g] w w' := by
  have hgw := hc.lt
  go_enter Try.func112, Try.ntmps112
  go_upto_region 1 with fail
  refine wp_name ?_
  intro W hW
  have xW : ∃ y, W = ext w y := by rw [hW.out]; exact (by refine x'z ?_; repeat (with_reducible (first | exact x'a _ _ | exact x'b _ | exact x'c (by assumption) | refine x'd ?_ (by assumption) | refine x'e ?_ _ | refine x'f ?_ _ | refine x'g ?_ | refine x'h ?_ ?_ _ | refine x'i ?_ _ | refine x'j ?_ | refine x'k ?_ _ | refine x'l ?_ _ _ | refine x'm ?_ | assumption | (refine x'n ?_; omega) | omega)))
  have BW0 : BoxAt W (w.heap.size) #[.int .i64 0, .int .i64 0] := by rw [hW.out]; refine ⟨?_, fun j => ?_, fun j => ?_⟩ <;> go_simp
  obtain ⟨lW0, bW0, fW0⟩ := BW0
  have cW0_0 : W.cell? ⟨w.heap.size, 0, none⟩ = some (.int .i64 0) := bW0 0
  have cW0_1 : W.cell? ⟨w.heap.size, 1, none⟩ = some (.int .i64 0) := bW0 1
  clear hW
  have RW : BoxAt W w.heap.size #[.int .i64 0, .int .i64 0] := ⟨lW0, bW0, fW0⟩
  have hcW := hc.toExt xW
  have hzW := size_of_ext xW
  have hcWx := Chg.ofExt (F := [g]) xW
  have ng : w.heap.size ∉ [g] := fun h => by simp at h; omega
  clear bW0 fW0 cW0_0 cW0_1
  go_upto_region 2 with (first
    | (go_at_call 55; (with_reducible refine (l1Below_any hcW ?_ ?_).mono ?_); (focus (omega)); (focus (omega)); rintro e w1 ⟨x1, rfl, hx0, hx1, hc1, hC1⟩)
    | (go_at_call 55; (with_reducible refine (l1Below_any hc1 ?_ ?_).mono ?_); (focus (omega)); (focus (omega)); rintro e w2 ⟨x2, rfl, hy0, hy1, hc2, hC2⟩)
    | (go_at_call 90; refine (specNewRational_any (by omega) (by omega) (by omega) (by omega)).mono ?_; rintro e w3 ⟨rfl, hx3⟩))
  refine wp_name ?_
  intro wa hwa
  obtain ⟨r, hr⟩ : ∃ r : Int × Int, BoxAt wa w3.heap.size #[.int .i64 r.1, .int .i64 r.2] := ⟨_, by rw [hwa.out]; exact BoxAt.new _ _ _⟩
  have hxa : ∃ y, wa = ext w3 y := by rw [hwa.out]; exact alloc_ext _ _
  have hCa : Chg [g] w wa := (((hcWx.trans hC1 (fun x hx => .inl hx)).trans hC2 (fun x hx => .inl hx)).trans0 hx3).trans0 hxa
  have hca := (hc2.toExt hx3).toExt hxa
  have Ra := RW.chg (((hC1.trans hC2 (fun x hx => .inl hx)).trans0 hx3).trans0 hxa) ng
  have hz3 := size_of_ext hx3
  have hs1 := hC1.size
  have hs2 := hC2.size
  clear hwa hcW hcWx RW hc1 hc2 hC1 hC2
  obtain ⟨br, ebr⟩ : ∃ b, w3.heap.size = b := ⟨_, rfl⟩
  rw [ebr] at hr hz3 ⊢
  have nbr : br ∉ [g] := fun h => by simp at h; omega
  have nbw : br ≠ w.heap.size := by omega
  have nbw2 : w.heap.size ≠ br := by omega
  have nbg : br ≠ g := by omega
  have nbz : w.heap.size ≤ br := by omega
  clear ebr hxa hx3 hs1 hs2 hzW lW0
  go_wp2_with fail
  refine (l1Once_any hca (by omega) (by omega)).mono ?_
  rintro e w4 ⟨t, rfl, hc4, hC4⟩
  have hr4 := hr.chg hC4 nbr
  have Ra4 := Ra.chg hC4 ng
  have hC4' := hCa.trans hC4 (fun x hx => .inl hx)
  obtain ⟨l4, b4, b4', f4⟩ := bx2 hr4
  obtain ⟨l5, c4, c4', f5⟩ := bx2 Ra4
  have HC4 := Lib.hid hC4'
  have HC := Lib.hid hc4
  clear hr Ra hCa hca hC4 hC4' hc4
  cases t with
  | false =>
    go_wp2
    exact bodyPost_ret (v := .agg #[.int .i64 r.1, .int .i64 r.2]) (by simp [results, Try.results112, go_sem, *]) rfl ⟨r, rfl, HC.out.chg (F := [w.heap.size]) ((((Chg.refl [w.heap.size] w4).setCell (.inl (by simp)) _)).setCell (.inl (by simp)) _) (by simp; omega) (by simp; exact Nat.le_trans HC.out.1 (by omega)), (HC4.out.setCell (.inr (by simp)) _).setCell (.inr (by simp)) _⟩
  | true =>
    have hg4 := HC.out.lt
    go_wp2_with fail
    refine (l1PickInt_any (HC.out.toExt (alloc_ext _ _)) (by omega) (by omega) (BoxAt.new _ _ _) (by intro j hj; rcases j with _ | _ | _ | _ | j <;> first | exact ⟨_, rfl⟩ | omega) (by have := hg4; first | omega | (simp; omega))).mono ?_
    rintro e w5 ⟨x5, j5, rfl, hj5, hx5, hc5, hC5⟩
    have hb5 : -1000000000 ≤ x5 ∧ x5 ≤ 1000000000 := (by rcases j5 with _ | _ | _ | _ | j <;> simp at hx5 <;> omega)
    obtain ⟨p5, q5⟩ := hb5
    have hr5 := (hr4.toExt (alloc_ext _ _)).chg hC5 nbr
    have Ra5 := (Ra4.toExt (alloc_ext _ _)).chg hC5 ng
    have hg5 := hc5.lt
    clear hx5
    go_wp2_with fail
    refine (l1PickInt_any (hc5.toExt (alloc_ext _ _)) (by omega) (by omega) (BoxAt.new _ _ _) (by intro j hj; rcases j with _ | _ | _ | _ | j <;> first | exact ⟨_, rfl⟩ | omega) (by have := hg4; first | omega | (simp; omega))).mono ?_
    rintro e w6 ⟨x6, j6, rfl, hj6, hx6, hc6, hC6⟩
    have hb6 : 1 ≤ x6 ∧ x6 ≤ 1000000000 := (by rcases j6 with _ | _ | _ | j <;> simp at hx6 <;> omega)
    obtain ⟨p6, q6⟩ := hb6
    have hr6 := (hr5.toExt (alloc_ext _ _)).chg hC6 nbr
    have Ra6 := (Ra5.toExt (alloc_ext _ _)).chg hC6 ng
    clear hx6
    go_wp2_with fail
    refine (specNewRational_any (by omega) (by omega) (by omega) (by omega)).mono ?_
    rintro e w7 ⟨rfl, hx7⟩
    have hr7 := hr6.toExt hx7
    have Ra7 := Ra6.toExt hx7
    obtain ⟨l7, b7, b7', f7⟩ := bx2 hr7
    obtain ⟨l8, c7, c7', f8⟩ := bx2 Ra7
    go_wp2
    have hc7 := hc6.toExt hx7
    have hC7 : Chg [g] w w7 := ((((HC4.out.alloc _).trans hC5 (fun x hx => .inl hx)).alloc _).trans hC6 (fun x hx => .inl hx)).trans0 hx7
    exact bodyPost_ret (v := .agg #[.int .i64 ((newR x5 x6).getD (0, 0)).1, .int .i64 ((newR x5 x6).getD (0, 0)).2]) (by simp [results, Try.results112, go_sem, *]) rfl ⟨(newR x5 x6).getD (0, 0), rfl, hc7.chg (F := [br, w.heap.size]) (((((Chg.refl [br, w.heap.size] w7).setCell (.inl (by simp)) _).setCell (.inl (by simp)) _).setCell (.inl (by simp)) _).setCell (.inl (by simp)) _) (by simp; omega) (by simp; exact ⟨Nat.le_trans HC.out.1 (by omega), Nat.le_trans HC.out.1 (by omega)⟩), (((hC7.setCell (.inr (by simpa using nbz)) _).setCell (.inr (by simpa using nbz)) _).setCell (.inr (by simp)) _).setCell (.inr (by simp)) _⟩
set_option maxRecDepth 100000 in
set_option maxHeartbeats 8000000 in
theorem l2Any_any {g : Nat} {w0 w : World} (hc : Cur w0 w g) :
    Calls Try.prog 98 #[.pointer (some ⟨g, 0, none⟩)] w fun e w' => ∃ r : Int × Int, e = .returned (.agg #[.int .i64 r.1, .int .i64 r.2]) ∧ Cur w0 w' g ∧ Chg [g] w w' := by
  have hgw := hc.lt
  go_enter Try.func98, Try.ntmps98
  go_upto_region 1 with fail
  refine wp_name ?_
  intro W hW
  have xW : ∃ y, W = ext w y := by rw [hW.out]; exact (by refine x'z ?_; repeat (with_reducible (first | exact x'a _ _ | exact x'b _ | exact x'c (by assumption) | refine x'd ?_ (by assumption) | refine x'e ?_ _ | refine x'f ?_ _ | refine x'g ?_ | refine x'h ?_ ?_ _ | refine x'i ?_ _ | refine x'j ?_ | refine x'k ?_ _ | refine x'l ?_ _ _ | refine x'm ?_ | assumption | (refine x'n ?_; omega) | omega)))
  have BW0 : BoxAt W (w.heap.size) #[.int .i64 0, .int .i64 0] := by rw [hW.out]; refine ⟨?_, fun j => ?_, fun j => ?_⟩ <;> go_simp
  obtain ⟨lW0, bW0, fW0⟩ := BW0
  have cW0_0 : W.cell? ⟨w.heap.size, 0, none⟩ = some (.int .i64 0) := bW0 0
  have cW0_1 : W.cell? ⟨w.heap.size, 1, none⟩ = some (.int .i64 0) := bW0 1
  clear hW
  have RW : BoxAt W w.heap.size #[.int .i64 0, .int .i64 0] := ⟨lW0, bW0, fW0⟩
  have hcW := hc.toExt xW
  have hcWx := Chg.ofExt (F := [g]) xW
  have ng : w.heap.size ∉ [g] := fun h => by simp at h; omega
  clear bW0 fW0 cW0_0 cW0_1
  go_upto_region 2 with (go_at_call 112; refine (l2Rat_any hcW).mono ?_; rintro e w3 ⟨r0, rfl, hc3, hC3⟩)
  refine wp_name ?_
  intro wa hwa
  have hr : BoxAt wa w3.heap.size #[.int .i64 r0.1, .int .i64 r0.2] := by rw [hwa.out]; exact BoxAt.new _ _ _
  have hxa : ∃ y, wa = ext w3 y := by rw [hwa.out]; exact alloc_ext _ _
  have hCa : Chg [g] w wa := (hcWx.trans hC3 (fun x hx => .inl hx)).trans0 hxa
  have hca := hc3.toExt hxa
  have Ra := RW.chg (hC3.trans0 hxa) ng
  have hs3 := hC3.size
  clear hwa hcW hcWx RW hc3 hC3
  obtain ⟨br, ebr⟩ : ∃ b, w3.heap.size = b := ⟨_, rfl⟩
  rw [ebr] at hr hs3 ⊢
  have nbr : br ∉ [g] := fun h => by simp at h; omega
  have nbw : br ≠ w.heap.size := by omega
  have nbw2 : w.heap.size ≠ br := by omega
  have nbg : br ≠ g := by omega
  have nbz : w.heap.size ≤ br := by omega
  clear ebr hxa lW0
  go_wp2_with fail
  refine (l1Below_any hca (by omega) (by omega)).mono ?_
  rintro e w4 ⟨x, rfl, hx0, hx1, hc4, hC4⟩
  have hr4 := hr.chg hC4 nbr
  have Ra4 := Ra.chg hC4 ng
  have hC4' := hCa.trans hC4 (fun x hx => .inl hx)
  obtain ⟨l4, b4, b4', f4⟩ := bx2 hr4
  obtain ⟨l5, c4, c4', f5⟩ := bx2 Ra4
  have HC4 := Lib.hid hC4'
  have HC := Lib.hid hc4
  have hg4 := HC.out.lt
  clear hr Ra hCa hca hC4 hC4' hc4
  have hSet2 : ∀ (W7 : World) (u v : Value), Cur w0 W7 g → Cur w0 ((W7.setCell ⟨w.heap.size, 0, none⟩ u).setCell ⟨w.heap.size, 1, none⟩ v) g := fun W7 u v hc => hc.chg (F := [w.heap.size]) ((((Chg.refl [w.heap.size] W7).setCell (.inl (by simp)) _)).setCell (.inl (by simp)) _) (by simp; omega) (by simp; exact Nat.le_trans hc.1 (by omega))
  have hSetr : ∀ (W7 : World) (k : Nat) (u : Value), Cur w0 W7 g → Cur w0 (W7.setCell ⟨br, k, none⟩ u) g := fun W7 k u hc => hc.chg (F := [br]) ((Chg.refl [br] W7).setCell (.inl (by simp)) _) (by simp; omega) (by simp; exact Nat.le_trans hc.1 (by omega))
  have HSet2 := Lib.hid hSet2
  have HSetr := Lib.hid hSetr
  clear hSet2 hSetr
  by_cases h0 : x = 0
  · have q0 : (x == 0) = true := by simp [h0]
    clear h0
    go_wp2_with (go_at_call 100; refine (l1PickInt_any (HC.out.toExt (alloc_ext _ _)) (by omega) (by omega) (BoxAt.new _ _ _) (by intro j hj; rcases j with _ | _ | _ | _ | j <;> first | exact ⟨_, rfl⟩ | omega) (by have := hg4; first | omega | (simp; omega))).mono ?_; rintro e w5 ⟨x5, j5, rfl, hj5, hx5, hc5, hC5⟩; have hr5 := (hr4.toExt (alloc_ext _ _)).chg hC5 nbr; have Ra5 := (Ra4.toExt (alloc_ext _ _)).chg hC5 ng; obtain ⟨l7, b7, b7', f7⟩ := bx2 hr5; obtain ⟨l8, c7, c7', f8⟩ := bx2 Ra5; clear hx5)
    have hC7 : Chg [g] w w5 := (HC4.out.alloc _).trans hC5 (fun x hx => .inl hx)
    exact bodyPost_ret (v := .agg #[.int .i64 r0.1, .int .i64 x5]) (by simp [results, Try.results98, go_sem, *]) rfl ⟨(r0.1, x5), rfl, HSet2.out _ _ _ (HSetr.out _ _ _ hc5), ((hC7.setCell (.inr (by simpa using nbz)) _).setCell (.inr (by simp)) _).setCell (.inr (by simp)) _⟩
  · have q0 : (x == 0) = false := by simp [h0]
    by_cases h1 : x = 1
    · have q1 : (x == 1) = true := by simp [h1]
      clear h0 h1
      go_wp2_with (go_at_call 100; refine (l1PickInt_any (HC.out.toExt (alloc_ext _ _)) (by omega) (by omega) (BoxAt.new _ _ _) (by intro j hj; rcases j with _ | _ | _ | _ | j <;> first | exact ⟨_, rfl⟩ | omega) (by have := hg4; first | omega | (simp; omega))).mono ?_; rintro e w5 ⟨x5, j5, rfl, hj5, hx5, hc5, hC5⟩; have hr5 := (hr4.toExt (alloc_ext _ _)).chg hC5 nbr; have Ra5 := (Ra4.toExt (alloc_ext _ _)).chg hC5 ng; obtain ⟨l7, b7, b7', f7⟩ := bx2 hr5; obtain ⟨l8, c7, c7', f8⟩ := bx2 Ra5; clear hx5)
      have hC7 : Chg [g] w w5 := (HC4.out.alloc _).trans hC5 (fun x hx => .inl hx)
      exact bodyPost_ret (v := .agg #[.int .i64 x5, .int .i64 r0.2]) (by simp [results, Try.results98, go_sem, *]) rfl ⟨(x5, r0.2), rfl, HSet2.out _ _ _ (HSetr.out _ _ _ hc5), ((hC7.setCell (.inr (by simpa using nbz)) _).setCell (.inr (by simp)) _).setCell (.inr (by simp)) _⟩
    · have q1 : (x == 1) = false := by simp [h1]
      clear h0 h1
      go_wp2
      exact bodyPost_ret (v := .agg #[.int .i64 r0.1, .int .i64 r0.2]) (by simp [results, Try.results98, go_sem, *]) rfl ⟨r0, rfl, HSet2.out _ _ _ HC.out, (HC4.out.setCell (.inr (by simp)) _).setCell (.inr (by simp)) _⟩
end Go.Proofs.Ytbjpkfgkmilkdaa
namespace Go.Proofs.Ytbjpkfgkmilkdaa
open Go.RowKit
set_option maxRecDepth 100000 in
set_option maxHeartbeats 4000000 in
theorem l13Small_any {g : Nat} {w0 w : World} (hc : Cur w0 w g) :
    Calls Try.prog 97 #[.pointer (some ⟨g, 0, none⟩)] w fun e w' => ∃ r : Int × Int, e = .returned (.agg #[.int .i64 r.1, .int .i64 r.2]) ∧ Cur w0 w' g ∧ Chg [g] w w' := by
  have hgw := hc.lt
  go_enter Try.func97, Try.ntmps97
  go_upto_region 1 with fail
  refine wp_name ?_
  intro W hW
  have xW : ∃ y, W = ext w y := by rw [hW.out]; exact (by refine x'z ?_; repeat (with_reducible (first | exact x'a _ _ | exact x'b _ | exact x'c (by assumption) | refine x'd ?_ (by assumption) | refine x'e ?_ _ | refine x'f ?_ _ | refine x'g ?_ | refine x'h ?_ ?_ _ | refine x'i ?_ _ | refine x'j ?_ | refine x'k ?_ _ | refine x'l ?_ _ _ | refine x'm ?_ | assumption | (refine x'n ?_; omega) | omega)))
  have BW0 : BoxAt W (w.heap.size) #[.int .i64 0, .int .i64 0] := by rw [hW.out]; refine ⟨?_, fun j => ?_, fun j => ?_⟩ <;> go_simp
  obtain ⟨lW0, bW0, fW0⟩ := BW0
  have cW0_0 : W.cell? ⟨w.heap.size, 0, none⟩ = some (.int .i64 0) := bW0 0
  have cW0_1 : W.cell? ⟨w.heap.size, 1, none⟩ = some (.int .i64 0) := bW0 1
  clear hW
  have RW : BoxAt W w.heap.size #[.int .i64 0, .int .i64 0] := ⟨lW0, bW0, fW0⟩
  have hcW := hc.toExt xW
  have hzW := size_of_ext xW
  have hcWx := Chg.ofExt (F := [g]) xW
  have ng : w.heap.size ∉ [g] := fun h => by simp at h; omega
  clear bW0 fW0 cW0_0 cW0_1
  go_wp2_with fail
  refine (l1Below_any hcW (by omega) (by omega)).mono ?_
  rintro e w1 ⟨x1, rfl, hx0, hx1, hc1, hC1⟩
  have hg1 := hc1.lt
  go_wp2_with fail
  refine (l1PickInt_any (hc1.toExt (alloc_ext _ _)) (by omega) (by omega) (BoxAt.new _ _ _) (by intro j hj; rcases j with _ | _ | _ | _ | _ | j <;> first | exact ⟨_, rfl⟩ | omega) (by first | omega | (simp; omega))).mono ?_
  rintro e w2 ⟨x5, j5, rfl, hj5, hx5, hc5, hC5⟩
  have hb5 : 1 ≤ x5 ∧ x5 ≤ 4 := (by rcases j5 with _ | _ | _ | _ | _ | j <;> simp at hx5 <;> omega)
  obtain ⟨p5, q5⟩ := hb5
  clear hx5
  go_wp2_with fail
  refine (specNewRational_any (by omega) (by omega) (by omega) (by omega)).mono ?_
  rintro e w3 ⟨rfl, hx3⟩
  obtain ⟨r, hr⟩ : ∃ r, (newR (x1 - 3) x5).getD (0, 0) = r := ⟨_, rfl⟩
  rw [hr]
  have hC3 : Chg [g] w w3 := (((hcWx.trans hC1 (fun x hx => .inl hx)).trans0 (alloc_ext _ _)).trans hC5 (fun x hx => .inl hx)).trans0 hx3
  have hc3 := hc5.toExt hx3
  have R3 := (((RW.chg hC1 ng).toExt (alloc_ext _ _)).chg hC5 ng).toExt hx3
  obtain ⟨l4, b4, b4', f4⟩ := bx2 R3
  have HC := Lib.hid hc3
  have hwg : w0.heap.size ≤ w.heap.size := size_of_ext hc.2.1
  have HC3 := Lib.hid hC3
  clear hr RW hcW hcWx hc1 hC1 hc5 hC5 hC3 hc3 R3
  go_wp2
  exact bodyPost_ret (v := .agg #[.int .i64 r.1, .int .i64 r.2]) (by simp [results, Try.results97, go_sem, *]) rfl ⟨r, rfl, (HC.out.chg (F := [w.heap.size]) ((((Chg.refl [w.heap.size] w3).setCell (.inl (by simp)) _)).setCell (.inl (by simp)) _) (by simp; omega) (by simpa using hwg)).toExt (alloc_ext _ _), ((HC3.out.setCell (.inr (by simp)) _).setCell (.inr (by simp)) _).alloc _⟩
end Go.Proofs.Ytbjpkfgkmilkdaa
namespace Go.Proofs.Ytbjpkfgkmilkdaa
open Go.RowKit
section
variable {α : Type} {te size : Nat} {E : SE α} {w : World} {v : Value} {ds : List α} {F : List Nat}
theorem elems_upd {c' : List Value} {d' : α} {Fk : List Nat} {w' : World} : ∀ {vs : List Value} {ds : List α} {F : List Nat} {k : Nat} (_ : elems size E w vs ds F) (_ : k < ds.length),
    ∃ c vs1 vs2 F1 F2 Fk, vs = vs1 ++ (c ++ vs2) ∧ vs1.length = k * size ∧ c.length = size ∧ F = F1 ++ (Fk ++ F2) ∧ (∀ (h : k < ds.length), E w c ds[k] Fk) ∧ elems size E w vs1 (ds.take k) F1 ∧ elems size E w vs2 (ds.drop (k + 1)) F2
  | _, d :: ds, _, 0, ⟨c, vs', F1, F2, h1, h2, h3, h4, h5⟩, _ => ⟨c, [], vs', [], F2, F1, by simpa using h1, by simp, h2, by simpa using h5, fun _ => h3, ⟨rfl, rfl⟩, by simpa using h4⟩
  | _, d :: ds, _, k + 1, ⟨c0, vs', F0, F9, h1, h2, h3, h4, h5⟩, hk => by
    obtain ⟨c, vs1, vs2, F1, F2, Fk, e1, e2, e3, e4, e5, e6, e7⟩ := elems_upd (c' := c') (d' := d') (Fk := Fk) (w' := w') h4 (k := k) (by simpa using hk)
    refine ⟨c, c0 ++ vs1, vs2, F0 ++ F1, F2, Fk, by rw [h1, e1]; simp, by rw [List.length_append, h2, e2, Nat.add_mul]; omega, e3, by rw [h5, e4]; simp, fun h => by simpa using e5 (by simpa using h), ?_, by simpa using e7⟩
    exact ⟨c0, vs1, F0, F1, rfl, h2, h3, e6, rfl⟩
theorem elems_join {vs1 c vs2 : List Value} {ds1 ds2 : List α} {d : α} {F1 Fk F2 : List Nat} (h1 : elems size E w vs1 ds1 F1) (hc : c.length = size) (hE : E w c d Fk) (h2 : elems size E w vs2 ds2 F2) :
    elems size E w (vs1 ++ (c ++ vs2)) (ds1 ++ d :: ds2) (F1 ++ (Fk ++ F2)) := elems_append h1 ⟨c, vs2, Fk, F2, rfl, hc, hE, h2, rfl⟩
theorem set_split {ds : List α} {k : Nat} (h : k < ds.length) (d : α) : ds.set k d = ds.take k ++ d :: ds.drop (k + 1) := by
  rw [List.set_eq_take_append_cons_drop, if_pos h]
theorem SV.at [SMono E] (h : SV te size E w v ds F) (hN : F.Nodup) {k : Nat} (hk : k < ds.length) : ∃ g cap c Fk, v = .slice (some ⟨g, 0, none⟩) ds.length cap ∧ g < w.heap.size ∧ g ∈ F ∧ g ∉ Fk ∧ (∀ b ∈ Fk, b ∈ F) ∧ Fk.Nodup ∧ c.length = size ∧
    (∀ i (hi : i < c.length), w.cell? ⟨g, k * size + i, none⟩ = some c[i]) ∧ (∀ j, w.frozen? ⟨g, j, none⟩ = false) ∧ E w c ds[k] Fk ∧
    (∀ w' d', E w' c d' Fk → Chg Fk w w' → SV te size E w' v (ds.set k d') F) ∧
    (∀ j u d', j < size → E w (c.set j u) d' Fk → SV te size E (w.setCell ⟨g, k * size + j, none⟩ u) v (ds.set k d') F ∧ Chg [g] w (w.setCell ⟨g, k * size + j, none⟩ u)) := by
  obtain ⟨g, cap, hv, hgF, _, _⟩ := h.block (by intro e; subst e; simp at hk)
  obtain ⟨vs, F2, h1, h2, h3⟩ := h
  obtain ⟨c, vs1, vs2, G1, G2, Fk, e1, e2, e3, e4, e5, e6, e7⟩ := elems_upd (c' := []) (d' := ds[k]) (Fk := []) (w' := w) h2 hk
  have hfp : fpOf v = [g] := by rw [hv]; rfl
  rw [hfp] at h3
  subst h3 e4
  have hN' := hN
  rw [List.singleton_append, List.nodup_cons, List.nodup_append, List.nodup_append] at hN'
  obtain ⟨n1, n2, ⟨n3, n4, n5⟩, n6⟩ := hN'
  have hgk : g ∉ Fk := fun hm => n1 (by simp [hm])
  have hlt := (h1.lt g (by rw [hv]; rfl)).2
  have hm : (k + 1) * size ≤ ds.length * size := Nat.mul_le_mul_right _ hk
  rw [Nat.add_mul, Nat.one_mul] at hm
  have hlen := elems_length h2
  refine ⟨g, cap, c, Fk, hv, hlt, by simp, hgk, fun b hb => by simp [hb], n3, e3, fun i hi => ?_, fun j => ?_, e5 hk, fun w' d' hE hC => ?_, fun j u d' hj hE => ?_⟩
  · subst hv
    rw [h1.cellAt _ (by omega), e1, List.getElem?_append_right (by omega), e2, show k * size + i - k * size = i by omega, List.getElem?_append_left hi, List.getElem?_eq_getElem hi]
  · subst hv
    exact h1.frozenAt j
  · refine ⟨vs, G1 ++ (Fk ++ G2), ?_, ?_, by rw [hfp]⟩
    · rw [List.length_set]
      refine ownsRow_keepB h1 fun b hb => hC.block b ?_ ?_
      · rw [hfp] at hb; rw [List.mem_singleton.1 hb]; exact hlt
      · rw [hfp] at hb; rw [List.mem_singleton.1 hb]; exact hgk
    · rw [e1, set_split hk]
      refine elems_join (elems_keep e6 fun b hb => hC.block b (elems_lt e6 b hb) ?_) e3 hE (elems_keep e7 fun b hb => hC.block b (elems_lt e7 b hb) ?_)
      · exact fun hf => n6 b hb b (by simp [hf]) rfl
      · exact fun hf => n5 b hf b hb rfl
  · subst hv
    obtain ⟨h4, h5⟩ := h1.stored (k * size + j) u
    have hC : Chg [g] w (w.setCell ⟨g, k * size + j, none⟩ u) := Chg.ofGrown h5 fun k hk => by simpa using hk.symm
    have hkp : ∀ b, b ∈ G1 ++ (Fk ++ G2) → (w.setCell ⟨g, k * size + j, none⟩ u).heap[b]? = w.heap[b]? := fun b hb => by
      refine hC.block b (elems_lt h2 b hb) ?_
      intro e
      rw [List.mem_singleton.1 e] at hb
      exact n1 hb
    refine ⟨⟨vs.set (k * size + j) u, G1 ++ (Fk ++ G2), by rw [List.length_set]; exact h4, ?_, by rw [hfp]⟩, hC⟩
    have ev : vs.set (k * size + j) u = vs1 ++ (c.set j u ++ vs2) := by
      rw [e1, List.set_append_right _ _ (by omega), e2, show k * size + j - k * size = j by omega, List.set_append_left _ _ (by omega)]
    rw [ev, set_split hk]
    exact elems_join (elems_keep e6 fun b hb => hkp b (by simp [hb])) (by rw [List.length_set]; exact e3) (SMono.keep hE fun b hb => hkp b (by simp [hb])) (elems_keep e7 fun b hb => hkp b (by simp [hb]))
def Fill (te size : Nat) (E : SE α) (w : World) (v : Value) (n : Nat) (zs : List Value) (xs : List α) (k : Nat) (F : List Nat) : Prop :=
  ∃ vs F1, w.ownsRow 0 te size v n (vs ++ (List.replicate (n - k) zs).flatten) ∧ elems size E w vs (xs.take k) F1 ∧ F = fpOf v ++ F1
theorem Fill.done {n : Nat} {zs : List Value} {xs : List α} {k : Nat} (h : Fill te size E w v n zs xs k F) (hn : xs.length = n) (hk : n ≤ k) : SV te size E w v xs F := by
  obtain ⟨vs, F1, h1, h2, h3⟩ := h
  rw [show n - k = 0 by omega, List.replicate_zero, List.flatten_nil, List.append_nil] at h1
  rw [List.take_of_length_le (by omega)] at h2
  exact ⟨vs, F1, by rw [hn]; exact h1, h2, h3⟩
theorem Fill.toExt [SMono E] {n : Nat} {zs : List Value} {xs : List α} {k : Nat} {w' : World} (h : Fill te size E w v n zs xs k F) (hx : ∃ y, w' = ext w y) : Fill te size E w' v n zs xs k F := by
  obtain ⟨y, rfl⟩ := hx
  obtain ⟨vs, F1, h1, h2, rfl⟩ := h
  have hb := below_ext w y
  exact ⟨vs, F1, ownsRow_keepB h1 (fun b hb' => hb.block b (h1.lt b (mem_fpOf.1 hb')).2), elems_keep h2 (fun b hb' => hb.block b (elems_lt h2 b hb')), rfl⟩
theorem Fill.lt [SMono E] {n : Nat} {zs : List Value} {xs : List α} {k : Nat} (h : Fill te size E w v n zs xs k F) : ∀ b ∈ F, b < w.heap.size := by
  obtain ⟨vs, F1, h1, h2, rfl⟩ := h
  intro b hb
  rcases List.mem_append.1 hb with h | h
  · exact (h1.lt b (mem_fpOf.1 h)).2
  · exact elems_lt h2 b h
theorem Fill.cell {n cap : Nat} {g : Nat} {zs : List Value} {xs : List α} {k : Nat} (h : Fill te size E w (.slice (some ⟨g, 0, none⟩) n cap) n zs xs k F) {j : Nat} (hj : j < n * size) : (∃ u, w.cell? ⟨g, j, none⟩ = some u) ∧ w.frozen? ⟨g, j, none⟩ = false ∧ g < w.heap.size := by
  obtain ⟨vs, F2, h1, h2, _⟩ := h
  refine ⟨?_, h1.frozenAt j, (h1.lt g rfl).2⟩
  rw [h1.cellAt j hj]
  have := h1.1
  exact ⟨_, List.getElem?_eq_getElem (by omega)⟩
theorem Fill.put [SMono E] {n cap g : Nat} {zs c : List Value} {xs : List α} {k : Nat} {Fk : List Nat} {w' : World} (h : Fill te size E w (.slice (some ⟨g, 0, none⟩) n cap) n zs xs k F) (hk : k < xs.length) (hn : xs.length = n) (hc : c.length = size)
    (hE : E w c xs[k] Fk) (hN : (F ++ Fk).Nodup) (hC : Chg [g] w w')
    (hr : ∀ vs rest : List Value, vs.length = k * size → w.ownsRow 0 te size (.slice (some ⟨g, 0, none⟩) n cap) n (vs ++ (zs ++ rest)) → w'.ownsRow 0 te size (.slice (some ⟨g, 0, none⟩) n cap) n (vs ++ (c ++ rest))) :
    Fill te size E w' (.slice (some ⟨g, 0, none⟩) n cap) n zs xs (k + 1) (F ++ Fk) := by
  obtain ⟨vs, F1, h1, h2, rfl⟩ := h
  have hg : g ∉ F1 ∧ g ∉ Fk := by
    rw [show fpOf (.slice (some ⟨g, 0, none⟩) n cap) = [g] from rfl, List.append_assoc, List.singleton_append, List.nodup_cons] at hN
    exact ⟨fun h => hN.1 (by simp [h]), fun h => hN.1 (by simp [h])⟩
  have hl := elems_length h2
  rw [List.length_take, Nat.min_eq_left (by omega)] at hl
  rw [show n - k = (n - (k + 1)) + 1 by omega, List.replicate_succ, List.flatten_cons] at h1
  refine ⟨vs ++ c, F1 ++ Fk, by rw [List.append_assoc]; exact hr _ _ hl h1, ?_, by simp⟩
  rw [List.take_succ_eq_append_getElem hk]
  refine elems_append (elems_keep h2 fun b hb => hC.block b (elems_lt h2 b hb) ?_) (elems_one hc (SMono.keep hE fun b hb => hC.block b (SMono.lt hE b hb) ?_))
  · intro e; rw [List.mem_singleton.1 e] at hb; exact hg.1 hb
  · intro e; rw [List.mem_singleton.1 e] at hb; exact hg.2 hb
end
section
variable {α : Type} {te : Nat} {w : World} {F : List Nat} {n cap g k : Nat} {xs : List α} {Fk : List Nat}
end
section
variable {P : Program} (w : World)
end
theorem nodup_more {F G : List Nat} {n : Nat} (h1 : F.Nodup) (h2 : G.Nodup) (h3 : ∀ b ∈ F, b < n) (h4 : ∀ b ∈ G, n ≤ b) : (F ++ G).Nodup :=
  List.nodup_append.2 ⟨h1, h2, fun a ha b hb e => by have := h3 a ha; have := h4 b hb; omega⟩
end Go.Proofs.Ytbjpkfgkmilkdaa
namespace Go.Proofs.Ytbjpkfgkmilkdaa
open Go.RowKit
def marksR (k : Int) (n : Nat) : List (Int × Int) := (List.range n).map fun (i : Nat) => (k + 2 * (i : Int), k + 2 * (i : Int) + 1)
@[simp] theorem marksR_length (k : Int) (n : Nat) : (marksR k n).length = n := by simp [marksR]
theorem marksR_get {k : Int} {n j : Nat} (h : j < (marksR k n).length) : (marksR k n)[j] = (k + 2 * (j : Int), k + 2 * (j : Int) + 1) := by simp [marksR]
end Go.Proofs.Ytbjpkfgkmilkdaa
namespace Go.Proofs.Ytbjpkfgkmilkdaa
open Go.RowKit
section
variable {α : Type}
theorem sum_each {c : α → Nat} : ∀ {xs : List α} {x : α}, x ∈ xs → c x ≤ (xs.map c).sum
  | y :: xs, x, h => by
    rw [List.map_cons, List.sum_cons]
    rcases List.mem_cons.1 h with e | e
    · subst e; omega
    · have := sum_each (c := c) e
      omega
def mkN (mk : Int → α → α × Int) : Int → List α → List α × Int
  | k, [] => ([], k)
  | k, x :: xs => ((mk k x).1 :: (mkN mk (mk k x).2 xs).1, (mkN mk (mk k x).2 xs).2)
@[simp] theorem mkN_length (mk : Int → α → α × Int) : ∀ (xs : List α) (k : Int), (mkN mk k xs).1.length = xs.length
  | [], _ => rfl
  | x :: xs, k => by simp [mkN, mkN_length mk xs]
end
end Go.Proofs.Ytbjpkfgkmilkdaa
namespace Go.Proofs.Ytbjpkfgkmilkdaa
open Go.RowKit
section
variable {α : Type} {te size te2 : Nat} {E : SE α} [SMono E] {w : World} {ds : List (List α)} {F : List Nat} {g n cap k : Nat}
theorem SV.row (h : SV te 1 (sSl te2 size E) w (.slice (some ⟨g, 0, none⟩) n cap) ds F) (hN : F.Nodup) (hk : k < ds.length) : ∃ v Fk, g < w.heap.size ∧ w.cell? ⟨g, k, none⟩ = some v ∧ (∀ j, w.frozen? ⟨g, j, none⟩ = false) ∧ SV te2 size E w v ds[k] Fk ∧ (∀ b ∈ Fk, b ∈ F) ∧ Fk.Nodup ∧ g ∉ Fk ∧ g ∈ F ∧
    (∀ w' d', SV te2 size E w' v d' Fk → Chg Fk w w' → SV te 1 (sSl te2 size E) w' (.slice (some ⟨g, 0, none⟩) n cap) (ds.set k d') F) ∧
    (∀ w' v' d' F', Chg Fk w w' → SV te2 size E w' v' d' F' → F'.Nodup → (∀ b ∈ F', b ∈ Fk ∨ w.heap.size ≤ b) → ∃ F2, SV te 1 (sSl te2 size E) (w'.setCell ⟨g, k, none⟩ v') (.slice (some ⟨g, 0, none⟩) n cap) (ds.set k d') F2 ∧ F2.Nodup ∧ (∀ b ∈ F2, b ∈ F ∨ b ∈ F')) := by
  obtain ⟨_, _, e0, _, _⟩ := h.form
  injection e0 with _ e0 _
  subst e0
  obtain ⟨vs, F2, h1, h2, h3⟩ := h
  obtain ⟨c, vs1, vs2, G1, G2, Fk, e1, e2, e3, e4, e5, e6, e7⟩ := elems_upd (c' := []) (d' := ds[k]) (Fk := []) (w' := w) h2 hk
  have hfp : fpOf (.slice (some ⟨g, 0, none⟩) ds.length cap) = [g] := rfl
  rw [hfp] at h3
  subst h3 e4
  have hN' := hN
  rw [List.singleton_append, List.nodup_cons, List.nodup_append, List.nodup_append] at hN'
  obtain ⟨n1, n2, ⟨n3, n4, n5⟩, n6⟩ := hN'
  have hgk : g ∉ Fk := fun hm => n1 (by simp [hm])
  have hlt := (h1.lt g rfl).2
  have hlen := elems_length h2
  obtain ⟨v, hcv, hv⟩ := e5 hk
  subst hcv
  have hcell : w.cell? ⟨g, k, none⟩ = some v := by
    rw [h1.cellAt _ (by omega), e1, List.getElem?_append_right (by omega), e2]
    simp
  refine ⟨v, Fk, hlt, hcell, fun j => h1.frozenAt j, hv, fun b hb => by simp [hb], n3, hgk, by simp, fun w' d' hE hC => ?_, fun w' v' d' F' hC hE hNF hF' => ?_⟩
  · refine ⟨vs, G1 ++ (Fk ++ G2), ?_, ?_, by rw [hfp]⟩
    · rw [List.length_set]
      refine ownsRow_keepB h1 fun b hb => hC.block b ?_ ?_
      · rw [hfp] at hb; rw [List.mem_singleton.1 hb]; exact hlt
      · rw [hfp] at hb; rw [List.mem_singleton.1 hb]; exact hgk
    · rw [e1, set_split hk]
      refine elems_join (elems_keep e6 fun b hb => hC.block b (elems_lt e6 b hb) ?_) e3 ⟨v, rfl, hE⟩ (elems_keep e7 fun b hb => hC.block b (elems_lt e7 b hb) ?_)
      · exact fun hf => n6 b hb b (by simp [hf]) rfl
      · exact fun hf => n5 b hf b hb rfl
  · have hg1 : ∀ b, b ∈ G1 → b < w.heap.size := fun b hb => elems_lt e6 b hb
    have hg2 : ∀ b, b ∈ G2 → b < w.heap.size := fun b hb => elems_lt e7 b hb
    have hgF : g ∉ F' := fun hb => by
      rcases hF' g hb with h | h
      · exact hgk h
      · omega
    have hown : w'.ownsRow 0 te 1 (.slice (some ⟨g, 0, none⟩) ds.length cap) ds.length vs := ownsRow_keepB h1 fun b hb => hC.block b (by rw [hfp] at hb; rw [List.mem_singleton.1 hb]; exact hlt) (by rw [hfp] at hb; rw [List.mem_singleton.1 hb]; exact hgk)
    obtain ⟨h4, h5⟩ := hown.stored k v'
    have hC2 : Chg [g] w' (w'.setCell ⟨g, k, none⟩ v') := Chg.ofGrown h5 fun k hk => by simpa using hk.symm
    have a6 : elems 1 (sSl te2 size E) (w'.setCell ⟨g, k, none⟩ v') vs1 (ds.take k) G1 := elems_keep (elems_keep e6 fun b hb => hC.block b (hg1 b hb) (fun hf => n6 b hb b (by simp [hf]) rfl)) fun b hb => hC2.block b (Nat.lt_of_lt_of_le (hg1 b hb) hC.size) (fun hf => n1 (by rw [← List.mem_singleton.1 hf]; simp [hb]))
    have a7 : elems 1 (sSl te2 size E) (w'.setCell ⟨g, k, none⟩ v') vs2 (ds.drop (k + 1)) G2 := elems_keep (elems_keep e7 fun b hb => hC.block b (hg2 b hb) (fun hf => n5 b hf b hb rfl)) fun b hb => hC2.block b (Nat.lt_of_lt_of_le (hg2 b hb) hC.size) (fun hf => n1 (by rw [← List.mem_singleton.1 hf]; simp [hb]))
    have aE : SV te2 size E (w'.setCell ⟨g, k, none⟩ v') v' d' F' := hE.chg hC2 (fun b hb hf => hgF (by rw [← List.mem_singleton.1 hf]; exact hb))
    refine ⟨[g] ++ (G1 ++ (F' ++ G2)), ⟨vs.set k v', G1 ++ (F' ++ G2), by rw [List.length_set]; exact h4, ?_, rfl⟩, ?_, ?_⟩
    · have ev : vs.set k v' = vs1 ++ ([v'] ++ vs2) := by
        rw [e1, List.set_append_right _ _ (by omega), e2, show k - k * 1 = 0 by omega]
        simp
      rw [ev, set_split hk]
      exact elems_join a6 rfl ⟨v', rfl, aE⟩ a7
    · rw [List.singleton_append, List.nodup_cons, List.nodup_append, List.nodup_append]
      refine ⟨fun hm => ?_, n2, ⟨hNF, n4, fun a ha b hb e => ?_⟩, fun a ha b hb e => ?_⟩
      · rcases List.mem_append.1 hm with h | h
        · exact n1 (by simp [h])
        · rcases List.mem_append.1 h with h | h
          · exact hgF h
          · exact n1 (by simp [h])
      · subst e
        rcases hF' a ha with h | h
        · exact n5 a h a hb rfl
        · have := hg2 a hb; omega
      · subst e
        rcases List.mem_append.1 hb with h | h
        · rcases hF' a h with h | h
          · exact n6 a ha a (by simp [h]) rfl
          · have := hg1 a ha; omega
        · exact n6 a ha a (by simp [h]) rfl
    · intro b hb
      rcases List.mem_append.1 hb with h | h
      · exact .inl (by simp at h; simp [h])
      · rcases List.mem_append.1 h with h | h
        · exact .inl (by simp [h])
        · rcases List.mem_append.1 h with h | h
          · exact .inr h
          · exact .inl (by simp [h])
end
end Go.Proofs.Ytbjpkfgkmilkdaa
namespace Go.Proofs.Ytbjpkfgkmilkdaa
theorem tRRr : SlT Try.prog 29 26 1 24 (.slice none 0 0) := ⟨Try.underlying29, by kernel_rfl, rfl, by omega⟩
end Go.Proofs.Ytbjpkfgkmilkdaa
namespace Go.Proofs.Ytbjpkfgkmilkdaa
open Go.RowKit
def RwP (w0 : World) (g n m : Nat) (w : World) (e : Ending) (w' : World) : Prop := ∃ v F ds, e = .returned v ∧ SV 26 1 (sSl 67 2 sR) w' v ds F ∧ F.Nodup ∧ (∀ b ∈ F, w.heap.size ≤ b) ∧ ds.length = n ∧ (∀ r ∈ ds, r.length ≤ m + 1) ∧ Cur w0 w' g ∧ Chg [g] w w'
set_option maxRecDepth 100000 in
set_option maxHeartbeats 8000000 in
theorem l13Rows_any {g n m : Nat} {w0 w : World} (hc : Cur w0 w g) (hn : n ≤ 10) (hm : m ≤ 10) :
    Calls Try.prog 56 #[.pointer (some ⟨g, 0, none⟩), .int .i64 n, .int .i64 m] w (RwP w0 g n m w) := by
  have hgw := hc.lt
  have hw0w := size_of_ext hc.2.1
  have HC0 := Lib.hid hc.2.1
  have hS0 := SV.empty (α := List (Int × Int)) (te := 26) (size := 1) (E := sSl 67 2 sR) w
  have hc0 := hc.toExt (alloc_ext w (.cells #[] 26))
  go_enter Try.func56, Try.ntmps56
  go_wp2
  go_loopw [7] (fun v wr => ∃ (ds : List (List (Int × Int))) (F : List Nat), SV 26 1 (sSl 67 2 sR) wr v ds F ∧ F.Nodup ∧ (∀ b ∈ F, w.heap.size ≤ b) ∧ ds.length ≤ n ∧ (∀ r ∈ ds, r.length = m) ∧ Cur w0 wr g ∧ Chg [g] w wr) (fun v _ => n - lenR v)
  case atStart => exact ⟨[], [w.heap.size], hS0, by simp, by simp, by simp, by simp, hc0, (Chg.refl [g] w).alloc _⟩
  case round =>
    clear hS0 hc0 hc
    obtain ⟨ds, F, hS, hN, hF, hl, hr, hcr, hC⟩ := hrel
    have HF := Lib.hid hF
    have HS := Lib.hid hS
    have HN := Lib.hid hN
    have HR := Lib.hid hr
    have HC := Lib.hid hC
    have Hcr := Lib.hid hcr
    have hgr := hcr.lt
    have hzr := hC.size
    have ngF : Hid (∀ b ∈ F, b ∉ [g]) := Lib.hid (fun b hb h => by have := hF b hb; simp at h; omega)
    obtain ⟨A, cap, rfl, _, _⟩ := hS.form
    clear hS hF hC hN hr hcr
    by_cases hlt : ds.length < n
    · have hw0 := size_of_ext Hcr.out.2.1
      have hE0 := SV.empty (α := Int × Int) (te := 67) (size := 2) (E := sR) wr
      have hcE := Hcr.out.toExt (alloc_ext wr (.cells #[] 67))
      go_wp2
      go_loopw [8] (fun v vs => ∃ (xs : List (Int × Int)) (G : List Nat), SV 67 2 sR vs v xs G ∧ (∀ b ∈ G, wr.heap.size ≤ b) ∧ xs.length ≤ m ∧ Cur w0 vs g ∧ Chg [g] wr vs) (fun v _ => m - lenR v)
      case atStart => exact ⟨[], [wr.heap.size], hE0, by simp, by simp, hcE, (Chg.refl [g] wr).alloc _⟩
      case round =>
        clear hE0 hcE
        obtain ⟨xs, G, hX, hG, hxl, hcv, hCv⟩ := hrel
        have HG := Lib.hid hG
        have HX := Lib.hid hX
        have HCv := Lib.hid hCv
        have Hcv := Lib.hid hcv
        have hzv := hCv.size
        have ngG : Hid (∀ b ∈ G, b ∉ [g]) := Lib.hid (fun b hb h => by have := hG b hb; simp at h; omega)
        obtain ⟨A2, cap2, rfl, _, _⟩ := hX.form
        clear hX hG hCv hcv
        by_cases hlt2 : xs.length < m
        · go_wp2_with fail
          refine (l13Small_any Hcv.out).mono ?_
          rintro e w1 ⟨r, rfl, hc1, hC1⟩
          have hX1 := HX.out.chg hC1 ngG.out
          have HC1 := Lib.hid (HCv.out.trans hC1 (fun x hx => .inl hx))
          have Hc1 := Lib.hid hc1
          have hz1 := HC1.out.size
          clear hc1 hC1
          go_wp2_with (at_builtin; refine wpList_app1 (E := sR) (d := r) rfl _ _ _ rfl tR rfl rfl rfl (by simp) (fun _ => ⟨rfl, rfl⟩) rfl (by simp [Value.oneCell']) hX1 (by omega) (by omega) ?_; intro v' w' F' hS' hC' hF')
          exact ⟨⟨xs ++ [r], F', hS', newer HG.out hz1 hF', by simp; omega, Hc1.out.chg hC' (fun h => ngG.out g h (by simp)) (fun b hb => Nat.le_trans hw0 (HG.out b hb)), HC1.out.trans hC' (fun x hx => .inr (HG.out x hx))⟩, by have e := hS'.form; obtain ⟨A', c', rfl, _⟩ := e; simp [lenR]; omega⟩
        · have hSv := HS.out.chg HCv.out ngF.out
          have hN2 := (List.nodup_append.2 ⟨HN.out, HX.out.nodup, fun a ha b hb e => by have := HS.out.lt a ha; have := HG.out b hb; omega⟩ : (F ++ G).Nodup)
          have HX2 := Lib.hid HX.out
          go_wp2_with (at_builtin; refine wpList_appN (E := sSl 67 2 sR) (d := xs) (G := G) rfl _ _ _ rfl tRRr rfl rfl rfl (by simp) ⟨_, rfl, HX2.out⟩ rfl (by simp [Value.oneCell']) hSv hN2 (by omega) (by omega) ?_; intro v' w' F' hS' hC' hN' hF')
          have hFn : ∀ b ∈ F', w.heap.size ≤ b := fun b hb => by
            rcases hF' b hb with h | h | h
            · exact HF.out b h
            · exact Nat.le_trans hzr (HG.out b h)
            · omega
          have hCw := HC.out.trans HCv.out (fun x hx => .inl hx)
          exact ⟨⟨ds ++ [xs], F', hS', hN', hFn, by simp; omega, by intro r hr; rcases List.mem_append.1 hr with h | h; exact HR.out r h; (rw [List.mem_singleton.1 h]; omega), Hcv.out.chg hC' (fun h => ngF.out g h (by simp)) (fun b hb => Nat.le_trans hw0w (HF.out b hb)), hCw.trans hC' (fun x hx => .inr (HF.out x hx))⟩, by have e := hS'.form; obtain ⟨A', c', rfl, _⟩ := e; simp [lenR]; omega⟩
    · have hlen : ds.length = n := by omega
      have HL := Lib.hid hlen
      have hgI : g ∉ [g] ∨ True := .inr trivial
      clear hlen
      go_wp2_with fail
      refine (l1Below_any Hcr.out (by omega) (by omega)).mono ?_
      rintro e w1 ⟨x, rfl, hx0, hx1, hc1, hC1⟩
      have hS1 := HS.out.chg hC1 ngF.out
      have HC1 := Lib.hid (HC.out.trans hC1 (fun x hx => .inl hx))
      have Hc1 := Lib.hid hc1
      clear hc1 hC1
      by_cases h0 : x = 0
      · have e0 : (x == 0) = true := by simp [h0]
        clear h0
        by_cases hnm : 0 < n ∧ 0 < m
        · obtain ⟨hn0, hm0⟩ := hnm
          have hk : 0 < ds.length := by omega
          obtain ⟨g0, cap0, hA, _, _, _⟩ := hS1.block (by intro e; rw [e] at hk; simp at hk)
          injection hA with hA _ hcp
          subst hA hcp
          obtain ⟨v0, F0, l0, c0, f0, hI, hIF, hIN, hg0, hg0F, _, _⟩ := hS1.row HN.out hk
          have hr0 := HR.out ds[0] (List.getElem_mem hk)
          obtain ⟨g1, cap1, rfl, hg1, _, _⟩ := hI.block (by intro e; rw [e] at hr0; simp at hr0; omega)
          have ng0 : g0 ∉ [g] := ngF.out g0 hg0F
          have ngF0 : Hid (∀ b ∈ F0, b ∉ [g]) := Lib.hid (fun b hb => ngF.out b (hIF b hb))
          have HI := Lib.hid hI
          have hr1 : 0 < ds[0].length := by omega
          have hne : g1 ≠ g0 := fun e => hg0 (e ▸ hg1)
          have hne2 : g0 ≠ g1 := fun e => hne e.symm
          have hg1F := hIF g1 hg1
          clear hr0 hIF hI
          go_wp2_with fail
          go_region_held3 (fun w' => w'.cell? ⟨g0, 0, none⟩ = some (.slice (some ⟨g1, 0, none⟩) ds[0].length cap1)) (first | go_keep | (rw [hC2.cell ng0 (by simpa using l0)]; go_simp))
            ((go_at_call 98; refine (l2Any_any (Hc1.out.toExt (drew_ext _))).mono ?_; rintro e w2 ⟨r, rfl, hc2, hC2⟩; obtain ⟨⟨_, i0⟩, i1, i2⟩ := ((HI.out.toExt (drew_ext w1)).chg hC2 ngF0.out).cell rfl (j := 0) (by omega); obtain ⟨⟨_, i3⟩, i4, _⟩ := ((HI.out.toExt (drew_ext w1)).chg hC2 ngF0.out).cell rfl (j := 1) (by omega)))
          have hS2 := (hS1.toExt (drew_ext w1)).chg hC2 ngF.out
          obtain ⟨v0', F0', _, c0', _, hI', hIF', _, _, _, hupd, _⟩ := hS2.row HN.out hk
          have ec : w2.cell? ⟨g0, 0, none⟩ = some (.slice (some ⟨g1, 0, none⟩) ds[0].length cap1) := by rw [hC2.cell ng0 (by simpa using l0)]; simpa using c0
          rw [ec] at c0'
          injection c0' with c0'
          subst c0'
          obtain ⟨hI3, hC3⟩ := hI'.set2 rfl hr1 (u := .int .i64 r.1) (v := .int .i64 r.2) (d := r) (fun _ => ⟨rfl, rfl⟩)
          rw [Nat.zero_mul, Nat.zero_add] at hI3 hC3
          obtain ⟨_, _, e9, hg19, _, _⟩ := hI'.block (by intro e; rw [e] at hr1; simp at hr1)
          injection e9 with e9
          injection e9 with e9
          injection e9 with e9
          subst e9
          have hS3 := hupd _ _ hI3 (hC3.mono (fun x hx => .inl (by rw [List.mem_singleton.1 hx]; exact hg19)))
          have hw0w := size_of_ext Hc1.out.2.1
          have hgg : g ≠ g1 := fun e => ngF.out g1 hg1F (by simp [e])
          have hcf := hc2.chg hC3 (by simpa using hgg) (by intro b hb; rw [List.mem_singleton.1 hb]; exact Nat.le_trans (size_of_ext HC0.out) (HF.out g1 hg1F))
          have hCf := ((HC1.out.drew).trans hC2 (fun x hx => .inl hx)).trans hC3 (fun x hx => .inr (by rw [List.mem_singleton.1 hx]; exact HF.out g1 hg1F))
          have HH := Lib.hid (And.intro hS3 (And.intro hcf hCf))
          have HR0 := Lib.hid (HR.out ds[0] (List.getElem_mem hk))
          clear hS1 hS2 hupd hI' hIF' hI3 hC3 hS3 hcf hCf hC2 hc2 ec
          go_wp2
          go_ret
          refine ⟨_, F, ds.set 0 (ds[0].set 0 r), rfl, HH.out.1, HN.out, HF.out, by rw [List.length_set]; exact HL.out, fun y hy => ?_, HH.out.2.1, HH.out.2.2⟩
          rcases List.mem_or_eq_of_mem_set hy with h | h
          · rw [HR.out y h]; omega
          · rw [h, List.length_set, HR0.out]; omega
        · by_cases hn0 : 0 < n
          · have hm0 : ¬ 0 < m := fun h => hnm ⟨hn0, h⟩
            clear hnm
            have HH := Lib.hid (And.intro hS1 (And.intro Hc1.out HC1.out))
            clear hS1
            go_wp2
            go_ret
            exact ⟨_, F, ds, rfl, HH.out.1, HN.out, HF.out, HL.out, fun y hy => by rw [HR.out y hy]; omega, HH.out.2.1, HH.out.2.2⟩
          · clear hnm
            have HH := Lib.hid (And.intro hS1 (And.intro Hc1.out HC1.out))
            clear hS1
            go_wp2
            go_ret
            exact ⟨_, F, ds, rfl, HH.out.1, HN.out, HF.out, HL.out, fun y hy => by rw [HR.out y hy]; omega, HH.out.2.1, HH.out.2.2⟩
      · have e0 : (x == 0) = false := by simp [h0]
        by_cases h1 : x = 1
        · have e1 : (x == 1) = true := by simp [h1]
          clear h0 h1
          by_cases hn0 : 0 < n
          · have hk : 0 < ds.length := by omega
            have hk2 : n - 1 < ds.length := by omega
            have en : IntKind.i64.wrap ((n : Int) - 1) = ((n - 1 : Nat) : Int) := by rw [IntKind.wrap_i64]; omega
            obtain ⟨g0, cap0, hA, _, _, _⟩ := hS1.block (by intro e; rw [e] at hk; simp at hk)
            injection hA with hA _ hcp
            subst hA hcp
            obtain ⟨v0, F0, l0, c0, f0, hI, hIF, hIN, hg0, hg0F, _, _⟩ := hS1.row HN.out hk2
            have hr0 := HR.out ds[n - 1] (List.getElem_mem hk2)
            obtain ⟨A1, cap1, rfl, _, _⟩ := hI.form
            have ng0 : g0 ∉ [g] := ngF.out g0 hg0F
            have ngF0 : Hid (∀ b ∈ F0, b ∉ [g]) := Lib.hid (fun b hb => ngF.out b (hIF b hb))
            have HI := Lib.hid hI
            have hrl : ds[n - 1].length ≤ m := by omega
            clear hr0 hI
            go_wp2_with fail
            go_region_law (first
                | (refine step_app1 (E := sR) (d := r) (by rfl) _ _ _ (by rfl) tR (by rfl) (by rfl) (by rfl) (by simp) (fun _ => ⟨rfl, rfl⟩) (by rfl) (by simp [Value.oneCell']) hX2 (by omega) (by omega) ?_; intro v' w' F' hS' hC' hF'; obtain ⟨A2, c2, rfl, _, _⟩ := hS'.form; have b3 := hC'.block g0 l2 hg0; have k3 : w'.cell? ⟨g0, n - 1, none⟩ = some (.slice A1 ds[n - 1].length cap1) := (by rw [hC'.cell hg0 l2]; exact k2); have f3 : w'.frozen? ⟨g0, n - 1, none⟩ = false := (World.frozen?_of_block b3).trans f2; have l3 : g0 < w'.heap.size := Nat.lt_of_lt_of_le l2 hC'.size)
                | (rw [if_pos (by simp [Region.wanted])]; go_wp2_with (go_at_call 97; refine (l13Small_any (Hc1.out.toExt (drew_ext _))).mono ?_; rintro e w2 ⟨r, rfl, hc2, hC2⟩; have hX2 := (HI.out.toExt (drew_ext w1)).chg hC2 ngF0.out; have k2 : w2.cell? ⟨g0, n - 1, none⟩ = some (.slice A1 ds[n - 1].length cap1) := (by rw [hC2.cell ng0 (by simpa using l0)]; simpa using c0); have f2 : w2.frozen? ⟨g0, n - 1, none⟩ = false := (by rw [World.frozen?_of_block (hC2.block g0 (by simpa using l0) ng0)]; simpa using f0 (n - 1)); have l2 : g0 < w2.heap.size := Nat.lt_of_lt_of_le (by simpa using l0) hC2.size)))
            all_goals
              have hS2 := (hS1.toExt (drew_ext w1)).chg hC2 ngF.out
              obtain ⟨v0', F0', _, c0', _, hI', hIF', _, _, _, _, hput⟩ := hS2.row HN.out hk2
              rw [k2] at c0'
              injection c0' with c0'
              subst c0'
              have eF : F0' = F0 := hI'.plainF.trans hX2.plainF.symm
              subst eF
              obtain ⟨F2, hS3, hN3, hF3⟩ := hput _ _ _ _ hC' hS' hS'.nodup hF'
              have hw0w := size_of_ext Hc1.out.2.1
              have hz1 := HC1.out.size
              have hz2 := hC2.size
              rw [show w1.drew.heap.size = w1.heap.size from rfl] at hz2
              have hnF : ∀ b ∈ F2, w.heap.size ≤ b := fun b hb => by
                rcases hF3 b hb with h | h
                · exact HF.out b h
                · rcases hF' b h with h | h
                  · exact HF.out b (hIF b h)
                  · omega
              have hgF : g ∉ F0' := fun h => ngF0.out g h (by simp)
              have hgg : g ≠ g0 := fun e => ngF.out g0 hg0F (by simp [e])
              have hw0 := size_of_ext HC0.out
              have hcf := (hc2.chg hC' hgF (fun b hb => Nat.le_trans hw0 (HF.out b (hIF b hb)))).chg ((Chg.refl [g0] w').setCell (p := ⟨g0, n - 1, none⟩) (.inl (by simp)) (.slice A2 (ds[n - 1] ++ [r]).length c2)) (by simpa using hgg) (by intro b hb; rw [List.mem_singleton.1 hb]; exact Nat.le_trans hw0 (HF.out g0 hg0F))
              have hCf := ((((HC1.out.drew).trans hC2 (fun x hx => .inl hx)).trans hC' (fun x hx => .inr (HF.out x (hIF x hx))))).setCell (p := ⟨g0, n - 1, none⟩) (.inr (HF.out g0 hg0F)) (.slice A2 (ds[n - 1] ++ [r]).length c2)
              have el : (ds[n - 1] ++ [r]).length = ds[n - 1].length + 1 := by simp
              rw [el] at hS3 hcf hCf
              clear el
              have HH := Lib.hid (And.intro hS3 (And.intro hcf hCf))
              have HN3 := Lib.hid hN3
              have HnF := Lib.hid hnF
              clear hS1 hS2 hput hI' hIF' hS3 hcf hCf hC2 hc2 hC' hS' hX2 hN3 hF3 hnF hF' b3
              go_wp2
              go_ret
              refine ⟨_, F2, ds.set (n - 1) (ds[n - 1] ++ [r]), rfl, HH.out.1, HN3.out, HnF.out, by rw [List.length_set]; exact HL.out, fun y hy => ?_, HH.out.2.1, HH.out.2.2⟩
              rcases List.mem_or_eq_of_mem_set hy with h | h
              · rw [HR.out y h]; omega
              · rw [h, List.length_append]; simp; omega
          · have HH := Lib.hid (And.intro hS1 (And.intro Hc1.out HC1.out))
            clear hS1
            go_wp2
            go_ret
            exact ⟨_, F, ds, rfl, HH.out.1, HN.out, HF.out, HL.out, fun y hy => by rw [HR.out y hy]; omega, HH.out.2.1, HH.out.2.2⟩
        · have e1 : (x == 1) = false := by simp [h1]
          clear h0 h1
          have HH := Lib.hid (And.intro hS1 (And.intro Hc1.out HC1.out))
          clear hS1
          go_wp2
          go_ret
          exact ⟨_, F, ds, rfl, HH.out.1, HN.out, HF.out, HL.out, fun y hy => by rw [HR.out y hy]; omega, HH.out.2.1, HH.out.2.2⟩
theorem l13Rows_one {g m : Nat} {w0 w : World} (hc : Cur w0 w g) (hm : m ≤ 10) :
    Calls Try.prog 56 #[.pointer (some ⟨g, 0, none⟩), .int .i64 1, .int .i64 m] w (RwP w0 g 1 m w) := l13Rows_any (n := 1) hc (by omega) hm
theorem one_row {g m : Nat} {w0 w w' : World} {e : Ending} (h : RwP w0 g 1 m w e w') : ∃ b cap v0 F0 r, e = .returned (.slice (some ⟨b, 0, none⟩) 1 cap) ∧ b < w'.heap.size ∧ w'.cell? ⟨b, 0, none⟩ = some v0 ∧ SV 67 2 sR w' v0 r F0 ∧ r.length ≤ m + 1 ∧ (w.heap.size ≤ b ∧ ∀ x ∈ F0, w.heap.size ≤ x) ∧ Cur w0 w' g ∧ Chg [g] w w' := by
  obtain ⟨v, F, ds, rfl, hS, hN, hF, hl, hr, hc, hC⟩ := h
  obtain ⟨r, rfl⟩ : ∃ r, ds = [r] := List.length_eq_one_iff.1 hl
  obtain ⟨b, cap, rfl, hb, _, _⟩ := hS.block (by simp)
  obtain ⟨v0, F0, a3, b3, _, hI, hIF, _⟩ := hS.row hN (k := 0) (by simp)
  exact ⟨b, cap, v0, F0, r, rfl, a3, b3, hI, hr r (by simp), ⟨hF b hb, fun x hx => hF x (hIF x hx)⟩, hc, hC⟩
end Go.Proofs.Ytbjpkfgkmilkdaa
namespace Go.Proofs.Ytbjpkfgkmilkdaa
open Go.RowKit
section
variable {P : Program} {w : World}
theorem wp_appL {o : Oper} {a : Act} {K : Act → World → Prop} {Q : Exit → Act → World → Prop} (s x : Operand) (t : TypeId)
    (ho : o.op = .call { callee := .builtin .append, args := #[s, x], argTypes := #[t, t] })
    {α : Type} {E : SE α} [SMono E] [SPlain E] {V : VE α} {te size bytes : Nat} {z : Value} (hT : SlT P t te size bytes z) {v : Value} {ds es : List α} {F : List Nat} (hs : a.eval s = v) (hS : SV te size E w v ds F)
    {A : Option Addr} {c m : Nat} (hx : a.eval x = .slice A m c) (hm : m = es.length) (hc : A = none → c = 0) (hV : RV size V w A es) (hVE : ∀ c d, V w c d → E w c d []) (h1 : ∀ c d, V w c d → ∀ u ∈ c, u.oneCell' = true)
    (hlen : ds.length + m ≤ 2000000000) (hby : bytes ≤ 60000)
    (h : ∀ v' w' F', SV te size E w' v' (ds ++ es) F' → Chg F w w' → (∀ b ∈ F', b ∈ F ∨ w.heap.size ≤ b) → K (a.put o.dst v') w') : o.wp P a w K Q := by
  subst hm
  cases A with
  | none =>
    have e0 : es = [] := Classical.byContradiction fun hn => by
      obtain ⟨b, o, h, _⟩ := hV hn
      cases h
    subst e0
    obtain ⟨ht, hi, _, _⟩ := hT
    obtain ⟨i, hi, _, _, _⟩ := info_parts hi
    rw [hc rfl] at hx
    have hS' := hS
    obtain ⟨vs, F2, ho', _, _⟩ := hS'
    have hrun := run_append_owned_none (P := P) (w := w) 0 t o.type te i size ht hi v ds.length vs ho'
    unfold Oper.wp execOp
    simp only [ho, resolve, invoke, builtin, Sem.run_bind, Sem.run_pure, Result.andThen_ok, List.map_toArray, List.map_cons, List.map_nil, hs, hx, List.length_nil, hrun]
    exact h v w F (by simpa using hS) (Chg.refl F w) fun b hb => .inl hb
  | some ad =>
    have hN := hS.nodup
    have key : ∃ cs : List Value, (∀ j u, cs[j]? = some u → w.cell? (ad.add j) = some u) ∧ elems size E w cs es [] ∧ ∀ u ∈ cs, u.oneCell' = true := by
      by_cases hn : es = []
      · subst hn
        exact ⟨[], by simp, ⟨rfl, rfl⟩, by simp⟩
      · obtain ⟨b, o, e, _, h3⟩ := hV hn
        injection e with e
        subst e
        exact RV.cells hVE h1 es o h3
    obtain ⟨cs, k1, k2, k3⟩ := key
    refine wp_appS _ s x t ho hT hs hS hN hx k1 k3 rfl k2 (by simpa using hN) hlen hby ?_
    intro v' w' F' h2 h3 _ h5
    exact h v' w' F' h2 h3 fun b hb => by
      rcases h5 b hb with h | h | h
      · exact .inl h
      · simp at h
      · exact .inr h
theorem RI.one {w : World} {B : Nat} {n : Int} (h : BoxAt w B #[.int .i64 n]) : RI w (some ⟨B, 0, none⟩) [n] := fun _ => ⟨B, 0, rfl, h.1, fun j hj => by
  have : j = 0 := by simpa using hj
  subst this
  refine ⟨[.int .i64 n], rfl, fun i hi => ?_, rfl⟩
  have : i = 0 := by simpa using hi
  subst this
  have := h.2.1 0
  simpa using this⟩
end
end Go.Proofs.Ytbjpkfgkmilkdaa
namespace Go.Proofs.Ytbjpkfgkmilkdaa
open Go.RowKit
theorem vR_s2 {w : World} (c : List Value) (d : Int × Int) (h : vR w c d) : sR w c d [] := ⟨h, rfl⟩
theorem vR_12 {w : World} (c : List Value) (d : Int × Int) (h : vR w c d) : ∀ u ∈ c, u.oneCell' = true := by
  simp only [vR] at h
  subst h
  simp [Value.oneCell']
theorem sl_blkS {A A' : Option Addr} {n m c c' : Nat} (h : Value.slice A n c = .slice A' m c') : A = A' := by injection h
theorem SV.cap0s {α : Type} {te size : Nat} {E : SE α} {w : World} {A : Option Addr} {n c : Nat} {ds : List α} {F : List Nat} (h : SV te size E w (.slice A n c) ds F) (hA : A = none) : c = 0 := by
  obtain ⟨vs, F2, h1, _, _⟩ := h
  rcases h1.2 with ⟨h2, _⟩ | ⟨g, cap, cur, h2, _⟩
  · injection h2
  · injection h2 with e1
    rw [hA] at e1; cases e1
def DsP (w : World) (e : Ending) (w' : World) : Prop := ∃ v F ds v' F' ys, e = .returned (.tuple #[v, v']) ∧ (∃ y, w' = ext w y) ∧ SV 26 1 (sSl 67 2 sR) w' v ds F ∧ SV 67 2 sR w' v' ys F' ∧ ds.length ≤ 3 ∧ (∀ r ∈ ds, r.length ≤ 4) ∧ ys.length ≤ 4
set_option maxRecDepth 100000 in
set_option maxHeartbeats 4000000 in
theorem DrawSolve_any {A : Option Addr} {c : Nat} {bs : List UInt8} {w : World} (hx : bs.length ≤ 1048576) (h1 : RU w A bs) :
    Calls Try.prog 19 #[.slice A bs.length c] w (DsP w) := by
  go_enter Try.func19, Try.ntmps19
  go_wp2_with fail
  refine (l1New_any hx h1).mono ?_
  rintro e w1 ⟨g, rfl, hc1⟩
  go_wp2_with fail
  refine (l1Below_any hc1 (by omega) (by omega)).mono ?_
  rintro e w2 ⟨x, rfl, hx0, hx1, hc2, hC2⟩
  obtain ⟨n, rfl⟩ : ∃ k : Nat, x = k := ⟨x.toNat, by omega⟩
  have hn : n < 4 := by omega
  have HW2 := Lib.hid hc2.2.1
  clear hc1 hx1
  go_wp2_with fail
  refine (l13Rows_any hc2 (by omega) (by omega)).mono ?_
  rintro e w3 ⟨v3, F3, ds, rfl, hS3, hN3, hF3, hl3, hr3, hc3, hC3⟩
  obtain ⟨A3, p3, rfl, _, _⟩ := hS3.form
  have HL3 := Lib.hid hl3
  have HR3 := Lib.hid hr3
  have HF3w := Lib.hid hS3.lt
  have HN3 := Lib.hid hN3
  have hgw := hc2.lt
  have ngF3 : Hid (∀ b ∈ F3, b ∉ [g]) := Lib.hid (fun b hb h => by have := hF3 b hb; rw [List.mem_singleton.1 h] at this; omega)
  have hd1 : ds.length ≤ n := Nat.le_of_eq hl3
  have hd2 : n ≤ ds.length := Nat.le_of_eq hl3.symm
  have hz3 := hC3.size
  clear hl3 hr3 hN3
  go_wp2_with fail
  refine (l13Rows_one hc3 (by omega)).mono ?_
  rintro e w4 h4
  obtain ⟨g4, p4, v4, F4, r4, rfl, l4, k4, hS4, hr4, hF4, hc4, hC4⟩ := one_row h4
  obtain ⟨A4, p5, rfl, _, _⟩ := hS4.form
  have hS3' := hS3.chg hC4 ngF3.out
  have HF4 := Lib.hid hF4
  have hz4 := hC4.size
  clear h4 hF4 hS3
  have HS4 := Lib.hid hS4
  have HS3 := Lib.hid hS3'
  have Hc4 := Lib.hid hc4
  have HF3 := Lib.hid hF3
  clear hS4 hS3' hc4 hF3 hc3 hC4 hC3 hC2 hc2
  by_cases h1n : 1 < n
  · go_wp2_with fail
    refine (l1Once_any Hc4.out (by omega) (by omega)).mono ?_
    rintro e w5 ⟨t, rfl, hc5, hC5⟩
    have hS5 := HS3.out.chg hC5 ngF3.out
    have hg4 : ∀ b ∈ F4, b ∉ [g] := fun b hb h => by
      have := HF4.out.2 b hb
      rw [List.mem_singleton.1 h] at this
      omega
    have hS45 := HS4.out.chg hC5 hg4
    cases t with
    | false =>
      go_wp2
      go_ret2
      show DsP w _ _
      exact ⟨_, F3, ds, _, F4, r4, rfl, hc5.2.1, hS5, hS45, by omega, fun r h => by have := HR3.out r h; omega, by omega⟩
    | true =>
      have hk0 : 0 < ds.length := by omega
      have hk1 : 1 < ds.length := by omega
      obtain ⟨g0, _, hA, hg0F, _, _⟩ := hS5.block (by intro e; rw [e] at hk0; simp at hk0)
      have hA3 := sl_blkS hA
      clear hA
      subst hA3
      obtain ⟨v0, G0, l0, c0, f0, hI0, _⟩ := hS5.row HN3.out hk0
      obtain ⟨A0, q0, rfl, _, _⟩ := hI0.form
      have hV0 := hI0.toView sR_v
      have hcap := Lib.hid (fun h : A0 = none => hI0.cap0s h)
      obtain ⟨v1, G1, _, c1, _, hI1, hG1F, _, hg1, _, _, hput⟩ := hS5.row HN3.out hk1
      have hr0 := HR3.out ds[0] (List.getElem_mem hk0)
      have hS0 := SV.empty (α := Int × Int) (te := 67) (size := 2) (E := sR) w5
      have HP := Lib.hid hput
      have hg0w := f0 1
      have hF3w : ∀ b ∈ F3, b < w5.heap.size := hS5.lt
      have HF5 := Lib.hid hF3w
      clear hI0 hI1 hput f0 hF3w
      go_wp2_with (at_builtin; refine wpList_appL (E := sR) (V := vR) (es := ds[0]) rfl _ _ _ rfl tR rfl hS0 rfl hcap.out (hV0.toExt (by refine x'z ?_; repeat (with_reducible (first | exact x'a _ _ | exact x'b _ | exact x'c (by assumption) | refine x'd ?_ (by assumption) | refine x'e ?_ _ | refine x'f ?_ _ | refine x'g ?_ | refine x'h ?_ ?_ _ | refine x'i ?_ _ | refine x'j ?_ | refine x'k ?_ _ | refine x'l ?_ _ _ | refine x'm ?_ | assumption | (refine x'n ?_; omega) | omega)))) vR_s2 vR_12 (by simp; omega) (by omega) ?_; intro v' w' F' hS' hC' hF'; obtain ⟨A', q', rfl, _, _⟩ := hS'.form; have hx' : ∃ y, w' = ext w5 y := hC'.isExt (alloc_ext _ _) (by simp); have hk' : w'.cell? ⟨g0, 1, none⟩ = some v1 := (by obtain ⟨y, e⟩ := hx'; rw [e, cell_ext l0]; exact c1); have hf' : w'.frozen? ⟨g0, 1, none⟩ = false := (by obtain ⟨y, e⟩ := hx'; rw [e, frozen_ext l0]; exact hg0w); have hl' : g0 < w'.heap.size := Nat.lt_of_lt_of_le l0 (size_of_ext hx'))
      have hFn : ∀ b ∈ F', w5.heap.size ≤ b := fun b hb => by
        rcases hF' b hb with h | h
        · simp at h; omega
        · simp at h; omega
      obtain ⟨F2, hS2, hN2, hF2⟩ := HP.out w' _ _ F' (Chg.ofExt hx') hS' hS'.nodup (fun b hb => .inr (hFn b hb))
      have hC2 := (Chg.refl [g0] w').setCell (p := ⟨g0, 1, none⟩) (.inl (by simp)) (.slice A' ([] ++ ds[0]).length q')
      have hxf := hC2.isExt (w0 := w) (trans_ext hc5.2.1 hx') (fun x hx => by rw [List.mem_singleton.1 hx]; exact Nat.le_trans (size_of_ext HW2.out) (HF3.out g0 hg0F))
      have hS4' := (hS45.toExt hx').chg hC2 (fun b hb h => by have h8 := HF4.out.2 b hb; rw [List.mem_singleton.1 h] at h8; have h9 := HF3w.out g0 hg0F; omega)
      simp only [List.nil_append] at hS2 hxf hS4'
      have HH := Lib.hid (And.intro hS2 (And.intro hxf hS4'))
      clear hS2 hxf hS4' hC2 hS' hC' hS5 hS45 hc5 hC5
      go_wp2
      go_ret2
      show DsP w _ _
      exact ⟨_, F2, ds.set 1 ds[0], _, F4, r4, rfl, HH.out.2.1, HH.out.1, HH.out.2.2, by simp; omega, fun r h => by
        rcases List.mem_or_eq_of_mem_set h with h | h
        · have := HR3.out r h; omega
        · rw [h]; omega, by omega⟩
  · go_wp2
    go_ret2
    show DsP w _ _
    exact ⟨_, F3, ds, _, F4, r4, rfl, Hc4.out.2.1, HS3.out, HS4.out, by omega, fun r h => by have := HR3.out r h; omega, by omega⟩
end Go.Proofs.Ytbjpkfgkmilkdaa
