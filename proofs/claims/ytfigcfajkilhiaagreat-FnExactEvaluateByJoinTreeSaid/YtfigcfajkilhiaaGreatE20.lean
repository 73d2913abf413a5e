/- Contracts of functions that the statement reaches. -/
import Derived.Test.YtfigcfajkilhiaaGreatE19
import Derived.Test.YtfigcfajkilhiaaGreatE01
import Derived.Test.YtfigcfajkilhiaaGreatE08
import Derived.Test.YtfigcfajkilhiaaGreatE04
namespace Go.Proofs.YtfigcfajkilhiaaGreat
open Go.RowKit
theorem RV.atIv {w : World} {b o : Nat} {d : List Int} (h : RI w (some ⟨b, o, none⟩) d) {k : Nat} (hk : k < d.length) : b < w.heap.size ∧ w.cell? ⟨b, o + k, none⟩ = some (.int .i64 (d.getD k 0)) := by
  obtain ⟨b', o', e, h1, h2⟩ := h.atI hk
  injection e with e
  injection e with e1 e2 _
  subst e1 e2
  exact ⟨h1, by rw [h2, List.getD_eq_getElem?_getD, List.getElem?_eq_getElem hk]; rfl⟩
theorem rootsG_snoc : ∀ (l : List Int) (r p : Int), rootsG r (l ++ [p]) = if p < 0 then rootsG r l + 1 else rootsG r l
  | [], r, p => by simp [rootsG]
  | x :: l, r, p => by
    rw [List.cons_append, rootsG, rootsG, rootsG_snoc l]
theorem rootsG_take {ps : List Int} {k : Nat} (h : k < ps.length) : rootsG 0 (ps.take (k + 1)) = if ps.getD k 0 < 0 then rootsG 0 (ps.take k) + 1 else rootsG 0 (ps.take k) := by
  rw [List.take_succ_eq_append_getElem h, rootsG_snoc, List.getD_eq_getElem?_getD, List.getElem?_eq_getElem h]
  rfl
theorem rootsG_bd : ∀ (l : List Int) (r : Int), r ≤ rootsG r l ∧ rootsG r l ≤ r + l.length
  | [], r => by simp [rootsG]
  | x :: l, r => by
    have := rootsG_bd l (if x < 0 then r + 1 else r)
    rw [rootsG, List.length_cons]
    split at this <;> rename_i h <;> simp only [h, if_true, if_false] <;> omega
theorem treeB_f {ps : List Int} (h : allF (upB ps) ps.length 0 = false) : treeB ps = false := by unfold treeB; rw [h]; rfl
set_option maxRecDepth 100000 in
set_option maxHeartbeats 8000000 in
theorem isTree_any {A : Option Addr} {c : Nat} {ps : List Int} {w : World} (hx : ps.length ≤ 100000000) (h1 : RI w A ps) :
    Calls Tryz.prog 105 #[.slice A ps.length c] w fun e w' => e = .returned (.bool (treeB ps)) ∧ w = w' := by
  go_enter Tryz.func105, Tryz.ntmps105
  go_wp2
  go_loop [3, 10] (fun r i => ∃ k : Nat, i = .int .i64 k ∧ r = .int .i64 (rootsG 0 (ps.take k)) ∧ k ≤ ps.length ∧ Hid (allF (upB ps) (ps.length - k) k = allF (upB ps) ps.length 0)) (fun _ i => ps.length - (intOf i).toNat)
  case atStart => exact ⟨0, rfl, by simp [rootsG], by omega, Lib.hid rfl⟩
  case round =>
    obtain ⟨k, rfl, rfl, hk, Hj⟩ := hrel
    have hrb := rootsG_bd (ps.take k) 0
    have hrl : (ps.take k).length = k := by simp; omega
    by_cases hlt : k < ps.length
    · obtain ⟨b, o, rfl⟩ := h1.place (by omega)
      obtain ⟨hb, hc⟩ := h1.atIv hlt
      have hst := rootsG_take hlt
      have e := Hj.out
      rw [allF_step hlt] at e
      have eU : upB ps k = (inB (ps.getD k 0) (-1) ((ps.length : Int) - 1) && clB ps (ps.length + 1) k) := rfl
      rw [eU] at e
      obtain ⟨R, hR⟩ : ∃ R, rootsG 0 (ps.take k) = R := ⟨_, rfl⟩
      obtain ⟨p, hp⟩ : ∃ p, ps.getD k 0 = p := ⟨_, rfl⟩
      rw [hR] at hst hrb ⊢
      rw [hp] at hst hc e
      rw [hrl] at hrb
      obtain ⟨t1, ht1⟩ : ∃ t, inB p (-1) ((ps.length : Int) - 1) = t := ⟨_, rfl⟩
      rw [ht1] at e
      have N1 := Lib.hid ht1
      have He := Lib.hid e
      have HST := Lib.hid hst
      clear e eU hR hp ht1 hst hrl Hj
      obtain ⟨hr1, hr2⟩ := hrb
      cases t1 with
      | false =>
        have HT := Lib.hid (treeB_f (ps := ps) (by rw [← He.out]; rfl))
        go_wp2_with (go_at_call 109; refine (within_any _ _ _ _).mono ?_; rintro e w' ⟨rfl, rfl⟩; rw [N1.out])
        go_ret
        exact ⟨by rw [HT.out]; rfl, rfl⟩
      | true =>
        have hpb := inB_t N1.out
        by_cases hp0 : p < 0
        all_goals
          have HS2 := Lib.hid HST.out
          first
            | (have HS3 : Hid (rootsG 0 (ps.take (k + 1)) = R + 1) := Lib.hid (by rw [HST.out, if_pos hp0]))
            | (have HS3 : Hid (rootsG 0 (ps.take (k + 1)) = R) := Lib.hid (by rw [HST.out, if_neg hp0]))
          go_wp2_with (go_at_call 109; refine (within_any _ _ _ _).mono ?_; rintro e w' ⟨rfl, rfl⟩; rw [N1.out])
          go_loop [6, 7] (fun a q => ∃ (av : Int) (q' : Nat), a = .int .i64 av ∧ q = .int .i64 q' ∧ q' ≤ ps.length + 1 ∧ av ≤ (ps.length : Int) - 1 ∧ Hid (clB ps (ps.length + 1 - q') av = clB ps (ps.length + 1) k)) (fun _ q => ps.length + 1 - (intOf q).toNat)
          case atStart => exact ⟨(k : Int), 0, rfl, rfl, by omega, by omega, Lib.hid rfl⟩
          case round =>
            obtain ⟨av, q, rfl, rfl, hq, hav, Hq⟩ := hrel
            by_cases hql : q ≤ ps.length
            · by_cases ha : 0 ≤ av
              · obtain ⟨a, rfl⟩ : ∃ a : Nat, av = a := ⟨av.toNat, by omega⟩
                obtain ⟨_, hc2⟩ := h1.atIv (k := a) (by omega)
                have e := Hq.out
                rw [show ps.length + 1 - q = (ps.length - q) + 1 by omega, clB, if_neg (by omega), show ((a : Int)).toNat = a by omega] at e
                obtain ⟨p2, hp2⟩ : ∃ p, ps.getD a 0 = p := ⟨_, rfl⟩
                rw [hp2] at hc2 e
                obtain ⟨t2, ht2⟩ : ∃ t, inB p2 (-1) ((ps.length : Int) - 1) = t := ⟨_, rfl⟩
                rw [ht2] at e
                have N2 := Lib.hid ht2
                have He2 := Lib.hid e
                clear e hp2 ht2 Hq
                cases t2 with
                | false =>
                  have HT := Lib.hid (treeB_f (ps := ps) (by rw [← He.out, ← He2.out]; rfl))
                  go_wp2_with (go_at_call 109; refine (within_any _ _ _ _).mono ?_; rintro e w' ⟨rfl, rfl⟩; rw [N2.out])
                  go_ret
                  exact ⟨by rw [HT.out]; rfl, rfl⟩
                | true =>
                  have hpb2 := inB_t N2.out
                  go_wp2_with (go_at_call 109; refine (within_any _ _ _ _).mono ?_; rintro e w' ⟨rfl, rfl⟩; rw [N2.out])
                  exact ⟨⟨p2, q + 1, rfl, by go_num, by omega, by omega, Lib.hid (by rw [show ps.length + 1 - (q + 1) = ps.length - q by omega]; simpa using He2.out)⟩, by simp [intOf]; omega⟩
              · have e := Hq.out
                rw [show ps.length + 1 - q = (ps.length - q) + 1 by omega, clB, if_pos (by omega)] at e
                have HK := Lib.hid (show allF (upB ps) (ps.length - (k + 1)) (k + 1) = allF (upB ps) ps.length 0 by have := He.out; rw [← e] at this; simpa using this)
                clear e Hq
                go_wp2
                exact ⟨⟨k + 1, by go_num, by rw [HS3.out], by omega, HK⟩, by simp [intOf]; omega⟩
            · have e := Hq.out
              rw [show ps.length + 1 - q = 0 by omega, clB] at e
              by_cases ha : 0 ≤ av
              · have HT := Lib.hid (treeB_f (ps := ps) (by rw [← He.out, ← e, decide_eq_false (by omega)]; rfl))
                clear e Hq
                go_wp2
                go_ret
                exact ⟨by rw [HT.out]; rfl, rfl⟩
              · have HK := Lib.hid (show allF (upB ps) (ps.length - (k + 1)) (k + 1) = allF (upB ps) ps.length 0 by have := He.out; rw [← e, decide_eq_true (by omega)] at this; simpa using this)
                clear e Hq
                go_wp2
                exact ⟨⟨k + 1, by go_num, by rw [HS3.out], by omega, HK⟩, by simp [intOf]; omega⟩
    · have e := Hj.out
      rw [allF_end hlt] at e
      have HT := Lib.hid (show treeB ps = decide (rootsG 0 (ps.take k) = 1) by unfold treeB; rw [← e, show ps.take k = ps from List.take_of_length_le (by omega)]; rfl)
      clear e Hj hrl
      go_wp2
      go_ret
      exact ⟨by rw [HT.out]; rfl, rfl⟩
def vS0 : VE (List Int) := fun w c ds => ∃ A c', c = [.slice A ds.length c'] ∧ RI w A ds
instance : VMono vS0 := ⟨fun ⟨A, c', h, k⟩ => ⟨A, c', h, k.ext⟩⟩
theorem RV.atS0 {w : World} {b o : Nat} {ats : List At} (h : RV 1 vS0 w (some ⟨b, o, none⟩) (ats.map (·.2))) {k : Nat} (hk : k < ats.length) : b < w.heap.size ∧ ∃ A' c', w.cell? ⟨b, o + k, none⟩ = some (.slice A' (vof ats k).length c') ∧ RI w A' (vof ats k) := by
  obtain ⟨b', o', e, h1, cs, h2, h3, A', c', h4, h5⟩ := h.get (k := k) (by simpa using hk)
  injection e with e
  injection e with e1 e2 _
  subst e1 e2 h4
  have := h3 0 (by simp)
  simp only [List.getElem_map, Nat.mul_one, Nat.add_zero, List.getElem_cons_zero] at this h5
  rw [vof_get hk] at this h5
  exact ⟨h1, A', c', this, h5⟩
set_option maxRecDepth 100000 in
set_option maxHeartbeats 8000000 in
theorem topsOf_any {A B : Option Addr} {c c' : Nat} {ats : List At} {ps : List Int} {v : Int} {w : World} (hx : ats.length ≤ 1000) (hxl : ∀ j, (vof ats j).length ≤ 100000000) (hpl : Hid (ps.length = ats.length)) (hr : ∀ j, j < ats.length → -1 ≤ ps.getD j 0 ∧ ps.getD j 0 ≤ (ats.length : Int) - 1)
    (h1 : RV 1 vS0 w A (ats.map (·.2))) (h2 : RI w B ps) :
    Calls Tryz.prog 106 #[.slice A ats.length c, .slice B ps.length c', .int .i64 v] w fun e w' => e = .returned (.int .i64 (tops ats ps v)) ∧ ∃ y, w' = ext w y := by
  have Hx := Lib.hid hxl
  have Hr := Lib.hid hr
  clear hxl hr
  go_enter Tryz.func106, Tryz.ntmps106
  go_wp2
  go_loopw [7, 12] (fun t i wr => ∃ (k : Nat) (tv : Int), i = .int .i64 k ∧ t = .int .i64 tv ∧ k ≤ ats.length ∧ 0 ≤ tv ∧ tv ≤ k ∧ (∃ y, wr = ext w y) ∧ Hid (topsG ats ps v (ats.length - k) k tv = tops ats ps v)) (fun _ i _ => ats.length - (intOf i).toNat)
  case atStart => exact ⟨0, 0, rfl, rfl, by omega, by omega, by omega, refl_ext w, Lib.hid rfl⟩
  case round =>
    obtain ⟨k, tv, rfl, rfl, hk, ht0, ht1, hy, Hj⟩ := hrel
    by_cases hlt : k < ats.length
    · obtain ⟨b, o, rfl⟩ := h1.place (by rw [List.length_map]; omega)
      have hkp : k < ps.length := by rw [hpl.out]; exact hlt
      obtain ⟨b2, o2, rfl⟩ := h2.place (by omega)
      obtain ⟨lb, A1, c1, a1, hV1⟩ := (h1.toExt hy).atS0 hlt
      obtain ⟨lb2, a2⟩ := (h2.toExt hy).atIv hkp
      have x1 := Hx.out k
      obtain ⟨r1, r2⟩ := Hr.out k hlt
      have e := Hj.out
      rw [topsG_step hlt] at e
      obtain ⟨p, hp⟩ : ∃ p, ps.getD k 0 = p := ⟨_, rfl⟩
      have eT : topB ats ps v k = (decide (v ∈ vof ats k) && (decide (p < 0) || !decide (v ∈ vof ats p.toNat))) := by unfold topB; rw [hp]
      rw [hp] at a2 r1 r2
      obtain ⟨t1, ht1'⟩ : ∃ t, decide (v ∈ vof ats k) = t := ⟨_, rfl⟩
      rw [ht1'] at eT
      have N1 := Lib.hid ht1'
      clear hp ht1' Hj
      cases t1 with
      | false =>
        have HK := Lib.hid (show topsG ats ps v (ats.length - (k + 1)) (k + 1) tv = tops ats ps v by rw [eT] at e; simpa using e)
        clear e eT
        go_wp2_with (go_at_call 121; refine (hasInt_any (by omega) (hV1.toExt (by refine x'z ?_; repeat (with_reducible (first | exact x'a _ _ | exact x'b _ | exact x'c (by assumption) | refine x'd ?_ (by assumption) | refine x'e ?_ _ | refine x'f ?_ _ | refine x'g ?_ | refine x'h ?_ ?_ _ | refine x'i ?_ _ | refine x'j ?_ | refine x'k ?_ _ | refine x'l ?_ _ _ | refine x'm ?_ | assumption | (refine x'n ?_; omega) | omega))))).mono ?_; rintro e w1 ⟨rfl, y1, rfl⟩; rw [N1.out])
        exact ⟨⟨k + 1, tv, by go_num, rfl, by omega, by omega, by omega, (by refine x'z ?_; repeat (with_reducible (first | exact x'a _ _ | exact x'b _ | exact x'c (by assumption) | refine x'd ?_ (by assumption) | refine x'e ?_ _ | refine x'f ?_ _ | refine x'g ?_ | refine x'h ?_ ?_ _ | refine x'i ?_ _ | refine x'j ?_ | refine x'k ?_ _ | refine x'l ?_ _ _ | refine x'm ?_ | assumption | (refine x'n ?_; omega) | omega))), HK⟩, by simp [intOf]; omega⟩
      | true =>
        by_cases hp0 : p < 0
        · have HK := Lib.hid (show topsG ats ps v (ats.length - (k + 1)) (k + 1) (tv + 1) = tops ats ps v by rw [eT, decide_eq_true hp0] at e; simpa using e)
          clear e eT
          go_wp2_with (go_at_call 121; refine (hasInt_any (by omega) (hV1.toExt (by refine x'z ?_; repeat (with_reducible (first | exact x'a _ _ | exact x'b _ | exact x'c (by assumption) | refine x'd ?_ (by assumption) | refine x'e ?_ _ | refine x'f ?_ _ | refine x'g ?_ | refine x'h ?_ ?_ _ | refine x'i ?_ _ | refine x'j ?_ | refine x'k ?_ _ | refine x'l ?_ _ _ | refine x'm ?_ | assumption | (refine x'n ?_; omega) | omega))))).mono ?_; rintro e w1 ⟨rfl, y1, rfl⟩; rw [N1.out])
          exact ⟨⟨k + 1, tv + 1, by go_num, rfl, by omega, by omega, by omega, (by refine x'z ?_; repeat (with_reducible (first | exact x'a _ _ | exact x'b _ | exact x'c (by assumption) | refine x'd ?_ (by assumption) | refine x'e ?_ _ | refine x'f ?_ _ | refine x'g ?_ | refine x'h ?_ ?_ _ | refine x'i ?_ _ | refine x'j ?_ | refine x'k ?_ _ | refine x'l ?_ _ _ | refine x'm ?_ | assumption | (refine x'n ?_; omega) | omega))), HK⟩, by simp [intOf]; omega⟩
        · obtain ⟨q, rfl⟩ : ∃ q : Nat, p = q := ⟨p.toNat, by omega⟩
          have hq : q < ats.length := by omega
          obtain ⟨_, A3, c3, a3, hV3⟩ := (h1.toExt hy).atS0 hq
          have x3 := Hx.out q
          obtain ⟨t3, ht3⟩ : ∃ t, decide (v ∈ vof ats q) = t := ⟨_, rfl⟩
          have N3 := Lib.hid ht3
          rw [eT, decide_eq_false hp0, show ((q : Int)).toNat = q by omega, ht3] at e
          have He := Lib.hid e
          clear e eT ht3
          cases t3 with
          | false =>
            go_wp2_with (first
              | (go_at_call_of 121 (A1); refine (hasInt_any (by omega) (hV1.toExt (by refine x'z ?_; repeat (with_reducible (first | exact x'a _ _ | exact x'b _ | exact x'c (by assumption) | refine x'd ?_ (by assumption) | refine x'e ?_ _ | refine x'f ?_ _ | refine x'g ?_ | refine x'h ?_ ?_ _ | refine x'i ?_ _ | refine x'j ?_ | refine x'k ?_ _ | refine x'l ?_ _ _ | refine x'm ?_ | assumption | (refine x'n ?_; omega) | omega))))).mono ?_; rintro e w1 ⟨rfl, y1, rfl⟩; rw [N1.out])
              | (go_at_call_of 121 (A3); refine (hasInt_any (by omega) (hV3.toExt (by refine x'z ?_; repeat (with_reducible (first | exact x'a _ _ | exact x'b _ | exact x'c (by assumption) | refine x'd ?_ (by assumption) | refine x'e ?_ _ | refine x'f ?_ _ | refine x'g ?_ | refine x'h ?_ ?_ _ | refine x'i ?_ _ | refine x'j ?_ | refine x'k ?_ _ | refine x'l ?_ _ _ | refine x'm ?_ | assumption | (refine x'n ?_; omega) | omega))))).mono ?_; rintro e w1 ⟨rfl, y2, rfl⟩; rw [N3.out]))
            exact ⟨⟨k + 1, tv + 1, by go_num, rfl, by omega, by omega, by omega, (by refine x'z ?_; repeat (with_reducible (first | exact x'a _ _ | exact x'b _ | exact x'c (by assumption) | refine x'd ?_ (by assumption) | refine x'e ?_ _ | refine x'f ?_ _ | refine x'g ?_ | refine x'h ?_ ?_ _ | refine x'i ?_ _ | refine x'j ?_ | refine x'k ?_ _ | refine x'l ?_ _ _ | refine x'm ?_ | assumption | (refine x'n ?_; omega) | omega))), Lib.hid (by simpa using He.out)⟩, by simp [intOf]; omega⟩
          | true =>
            go_wp2_with (first
              | (go_at_call_of 121 (A1); refine (hasInt_any (by omega) (hV1.toExt (by refine x'z ?_; repeat (with_reducible (first | exact x'a _ _ | exact x'b _ | exact x'c (by assumption) | refine x'd ?_ (by assumption) | refine x'e ?_ _ | refine x'f ?_ _ | refine x'g ?_ | refine x'h ?_ ?_ _ | refine x'i ?_ _ | refine x'j ?_ | refine x'k ?_ _ | refine x'l ?_ _ _ | refine x'm ?_ | assumption | (refine x'n ?_; omega) | omega))))).mono ?_; rintro e w1 ⟨rfl, y1, rfl⟩; rw [N1.out])
              | (go_at_call_of 121 (A3); refine (hasInt_any (by omega) (hV3.toExt (by refine x'z ?_; repeat (with_reducible (first | exact x'a _ _ | exact x'b _ | exact x'c (by assumption) | refine x'd ?_ (by assumption) | refine x'e ?_ _ | refine x'f ?_ _ | refine x'g ?_ | refine x'h ?_ ?_ _ | refine x'i ?_ _ | refine x'j ?_ | refine x'k ?_ _ | refine x'l ?_ _ _ | refine x'm ?_ | assumption | (refine x'n ?_; omega) | omega))))).mono ?_; rintro e w1 ⟨rfl, y2, rfl⟩; rw [N3.out]))
            exact ⟨⟨k + 1, tv, by go_num, rfl, by omega, by omega, by omega, (by refine x'z ?_; repeat (with_reducible (first | exact x'a _ _ | exact x'b _ | exact x'c (by assumption) | refine x'd ?_ (by assumption) | refine x'e ?_ _ | refine x'f ?_ _ | refine x'g ?_ | refine x'h ?_ ?_ _ | refine x'i ?_ _ | refine x'j ?_ | refine x'k ?_ _ | refine x'l ?_ _ _ | refine x'm ?_ | assumption | (refine x'n ?_; omega) | omega))), Lib.hid (by simpa using He.out)⟩, by simp [intOf]; omega⟩
    · have e := Hj.out
      rw [topsG_end hlt] at e
      have He := Lib.hid e
      clear e Hj
      go_wp2
      go_ret
      exact ⟨by rw [← He.out]; rfl, hy⟩
theorem pth_len (ps : List Int) : ∀ (f : Nat) (k : Int), (pth ps f k).length ≤ f
  | 0, _ => by simp [pth]
  | f + 1, k => by
    rw [pth]
    split
    · have := pth_len ps f (ps.getD k.toNat 0)
      rw [List.length_cons]; omega
    · simp
set_option maxRecDepth 100000 in
set_option maxHeartbeats 4000000 in
theorem l10Path_any {A : Option Addr} {c : Nat} {ps : List Int} {k0 : Int} {w : World} (hx : ps.length ≤ 100000000) (h1 : RI w A ps) :
    Calls Tryz.prog 65 #[.agg #[.slice A ps.length c], .int .i64 k0] w fun e w' => ∃ v F, e = .returned v ∧ (∃ y, w' = ext w y) ∧ SV 3 1 sI w' v (pth ps (ps.length + 1) k0) F ∧ ∀ b ∈ F, w.heap.size ≤ b := by
  go_enter Tryz.func65, Tryz.ntmps65
  go_upto_region 1 with fail
  refine wp_name ?_
  intro W hW
  have xW : ∃ y, W = ext w y := by rw [hW.out]; exact (by refine x'z ?_; repeat (with_reducible (first | exact x'a _ _ | exact x'b _ | exact x'c (by assumption) | refine x'd ?_ (by assumption) | refine x'e ?_ _ | refine x'f ?_ _ | refine x'g ?_ | refine x'h ?_ ?_ _ | refine x'i ?_ _ | refine x'j ?_ | refine x'k ?_ _ | refine x'l ?_ _ _ | refine x'm ?_ | assumption | (refine x'n ?_; omega) | omega)))
  have BW0 : BoxAt W (w.heap.size) #[.slice A ps.length c] := by rw [hW.out]; refine ⟨?_, fun j => ?_, fun j => ?_⟩ <;> go_simp
  obtain ⟨lW0, bW0, fW0⟩ := BW0
  have cW0_0 : W.cell? ⟨w.heap.size, 0, none⟩ = some (.slice A ps.length c) := bW0 0
  clear hW
  have P1 : BoxAt W w.heap.size #[.slice A ps.length c] := ⟨lW0, bW0, fW0⟩
  have hz := size_of_ext xW
  clear lW0 bW0 fW0 cW0_0
  go_wp2
  go_loopw [1, 5] (fun a v wr => ∃ (av : Int) (pre : List Int) (F : List Nat), a = .int .i64 av ∧ SV 3 1 sI wr v pre F ∧ (∀ b ∈ F, W.heap.size ≤ b) ∧ (∃ y, wr = ext W y) ∧ pre.length ≤ ps.length + 1 ∧ Hid (pre ++ pth ps (ps.length + 1 - pre.length) av = pth ps (ps.length + 1) k0)) (fun _ v _ => ps.length + 1 - (match v with | .slice _ n _ => n | _ => 0))
  case atStart => exact ⟨k0, [], [W.heap.size], rfl, SV.empty W, by simp, alloc_ext _ _, by simp, Lib.hid (by simp)⟩
  case round =>
    obtain ⟨av, pre, F, rfl, hS, hF, hy, hpl, Hj⟩ := hrel
    have HF := Lib.hid hF
    have HR := Lib.hid hS
    obtain ⟨l2, a2, f2⟩ := box1 (P1.toExt hy)
    obtain ⟨A1, c1, rfl, hc1, _⟩ := hS.form
    obtain ⟨t1, ht1⟩ : ∃ t, inB av 0 ((ps.length : Int) - 1) = t := ⟨_, rfl⟩
    have N1 := Lib.hid ht1
    clear hF hS ht1
    by_cases hle : pre.length ≤ ps.length
    · have e := Hj.out
      rw [show ps.length + 1 - pre.length = (ps.length - pre.length) + 1 by omega, pth, N1.out] at e
      cases t1 with
      | false =>
        have He := Lib.hid (show pre = pth ps (ps.length + 1) k0 by simpa using e)
        clear e Hj
        go_wp2_with (go_at_call 91; refine (l1In_any _ _ _ _).mono ?_; rintro e w' ⟨rfl, rfl⟩; rw [N1.out])
        go_ret
        exact ⟨_, F, rfl, trans_ext xW hy, by rw [← He.out]; exact HR.out, fun b hb => Nat.le_trans hz (HF.out b hb)⟩
      | true =>
        have hab := inB_t N1.out
        obtain ⟨a, rfl⟩ : ∃ a : Nat, av = a := ⟨av.toNat, by omega⟩
        obtain ⟨b, o, rfl⟩ := h1.place (by omega)
        obtain ⟨hb, hc⟩ := (h1.toExt (trans_ext xW hy)).atIv (k := a) (by omega)
        have hbw := (h1.atIv (k := a) (by omega)).1
        have hcw := (h1.atIv (k := a) (by omega)).2
        obtain ⟨p, hp⟩ : ∃ p, ps.getD a 0 = p := ⟨_, rfl⟩
        rw [show ((a : Int)).toNat = a by omega, hp] at e
        rw [hp] at hc hcw
        have He := Lib.hid (show (pre ++ [(a : Int)]) ++ pth ps (ps.length - pre.length) p = pth ps (ps.length + 1) k0 by simpa using e)
        clear e Hj hp
        have P1' := P1.toExt hy
        have hbF : b ∉ F := fun h => by have := HF.out b h; have := ltX xW hbw; have h9 : b < w.heap.size := hbw; omega
        have hwF : w.heap.size ∉ F := fun h => by have := HF.out _ h; have := P1.1; omega
        go_wp2_with (first
          | (go_at_call 91; refine (l1In_any _ _ _ _).mono ?_; rintro e w' ⟨rfl, rfl⟩; rw [N1.out])
          | (at_builtin; refine wpList_app1 (E := sI) (d := (a : Int)) rfl _ _ _ rfl tI rfl rfl rfl (by simp) (fun _ => ⟨rfl, rfl⟩) rfl (by simp [Value.oneCell']) HR.out (by omega) (by omega) ?_; intro v6 w6 F6 hS6 hC6 hF6; have k6 : w6.cell? ⟨b, o + a, none⟩ = some (.int .i64 p) := (by rw [hC6.cell hbF hb]; exact hc); obtain ⟨l6, a6, f6⟩ := box1 (P1'.chg hC6 hwF); have l7 : b < w6.heap.size := Nat.lt_of_lt_of_le hb hC6.size))
        have e6 := hS6.form
        obtain ⟨A6, c6, rfl, _⟩ := e6
        exact ⟨⟨p, pre ++ [(a : Int)], F6, rfl, hS6, newer HF.out (size_of_ext hy) hF6, hC6.isExt hy HF.out, by simp; omega, Lib.hid (by rw [List.length_append, List.length_singleton, show ps.length + 1 - (pre.length + 1) = ps.length - pre.length by omega]; exact He.out)⟩, by simp; omega⟩
    · have e := Hj.out
      rw [show ps.length + 1 - pre.length = 0 by omega, pth, List.append_nil] at e
      have He := Lib.hid e
      clear e Hj
      cases t1 <;> (
        go_wp2_with (go_at_call 91; refine (l1In_any _ _ _ _).mono ?_; rintro e w' ⟨rfl, rfl⟩; rw [N1.out])
        go_ret
        exact ⟨_, F, rfl, trans_ext xW hy, by rw [← He.out]; exact HR.out, fun b hb => Nat.le_trans hz (HF.out b hb)⟩)
end Go.Proofs.YtfigcfajkilhiaaGreat
