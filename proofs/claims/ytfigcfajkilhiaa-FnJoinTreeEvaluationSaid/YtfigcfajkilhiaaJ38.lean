/- Contracts of functions that the statement reaches. -/
import Derived.Test.YtfigcfajkilhiaaJ37
import Derived.Test.YtfigcfajkilhiaaJ04
import Derived.Test.YtfigcfajkilhiaaJ27
import Derived.Test.YtfigcfajkilhiaaJ01
import Derived.Test.YtfigcfajkilhiaaJ36
namespace Go.Proofs.Ytfigcfajkilhiaa
open Go.RowKit
def ivjB (d : Qd) (ps : List Int) : Bool := vqB d && jtB d.1.toNat d.2.1 ps
theorem vof_len {ats : List At} (h : ∀ x ∈ ats, x.2.length ≤ 100000000) (j : Nat) : (vof ats j).length ≤ 100000000 := by
  by_cases hj : j < ats.length
  · rw [← vof_get hj]; exact h _ (List.getElem_mem hj)
  · unfold vof
    rw [List.getD_eq_getElem?_getD, List.getElem?_eq_none (by omega)]
    simp
theorem treeB_rng {ps : List Int} (h : treeB ps = true) {j : Nat} (hj : j < ps.length) : -1 ≤ ps.getD j 0 ∧ ps.getD j 0 ≤ (ps.length : Int) - 1 := by
  unfold treeB at h
  rw [Bool.and_eq_true, allF_iff] at h
  have := h.1 j (by omega) (by omega)
  unfold upB at this
  rw [Bool.and_eq_true] at this
  exact inB_t this.1
def sW (W : World) : SE (List Int) := fun _ c ds F => vS0 W c ds ∧ F = []
instance (W : World) : SMono (sW W) := ⟨fun h b hb => by rw [h.2] at hb; simp at hb, fun h _ => h⟩
instance (W : World) : SPlain (sW W) := ⟨fun h => h.2⟩
set_option maxRecDepth 100000 in
set_option maxHeartbeats 8000000 in
theorem IsValidJoinTree_any {A B C : Option Addr} {c e1 f1 : Nat} {d : Qd} {ps : List Int} {w : World} (hb : BQ d) (h : vQ w [.int .i64 d.1, .slice A d.2.1.length c, .slice B d.2.2.length e1] d) (hx : ps.length ≤ 100000000) (h1 : RI w C ps) :
    Calls Try.prog 192 #[.agg #[.int .i64 d.1, .slice A d.2.1.length c, .slice B d.2.2.length e1], .agg #[.slice C ps.length f1]] w fun e w' => e = .returned (.bool (ivjB d ps)) ∧ ∃ y, w' = ext w y := by
  have HB := Lib.hid hb
  have HV := Lib.hid h
  obtain ⟨r1, r2, _⟩ := vQ_get h
  have ra := (vAts_get r1).2
  clear r1 r2
  obtain ⟨z, ats, out⟩ := d
  dsimp only at ra ⊢
  clear h hb
  obtain ⟨t1, ht1⟩ : ∃ t, vqB (z, ats, out) = t := ⟨_, rfl⟩
  have N1 := Lib.hid ht1
  cases t1 with
  | false =>
    have HE := Lib.hid (show ivjB (z, ats, out) ps = false by unfold ivjB; rw [ht1]; rfl)
    clear ht1
    go_enter Try.func192, Try.ntmps192
    go_wp2_with (go_at_call 156; refine (IsValidQuery_any (d := (z, ats, out)) HB.out (VD.toExt HV.out (by refine x'z ?_; repeat (with_reducible (first | exact x'a _ _ | exact x'b _ | exact x'c (by assumption) | refine x'd ?_ (by assumption) | refine x'e ?_ _ | refine x'f ?_ _ | refine x'g ?_ | refine x'h ?_ ?_ _ | refine x'i ?_ _ | refine x'j ?_ | refine x'k ?_ _ | refine x'l ?_ _ _ | refine x'm ?_ | assumption | (refine x'n ?_; omega) | omega))))).mono ?_; rintro e w1 ⟨rfl, hx1⟩; rw [N1.out])
    go_ret
    exact ⟨by rw [HE.out]; rfl, (by refine x'z ?_; repeat (with_reducible (first | exact x'a _ _ | exact x'b _ | exact x'c (by assumption) | refine x'd ?_ (by assumption) | refine x'e ?_ _ | refine x'f ?_ _ | refine x'g ?_ | refine x'h ?_ ?_ _ | refine x'i ?_ _ | refine x'j ?_ | refine x'k ?_ _ | refine x'l ?_ _ _ | refine x'm ?_ | assumption | (refine x'n ?_; omega) | omega)))⟩
  | true =>
    obtain ⟨g1, _, g3⟩ := vqB_facts ht1
    dsimp only at g1 g3
    have Hxx : Hid (∀ x ∈ ats, x.2.length ≤ 100000000) := Lib.hid fun x hx => by have := (g3 x hx).2; omega
    have Hx := Lib.hid (vof_len Hxx.out)
    have g4 : ats.length ≤ 1000 := by omega
    obtain ⟨g5, g6, g7⟩ := vqB_vars ht1
    dsimp only at g5 g6 g7
    obtain ⟨m, rfl⟩ : ∃ m : Nat, z = m := ⟨z.toNat, by omega⟩
    have g8 : m ≤ 1000 := by omega
    have g9 : 1 ≤ ats.length := by
      have h9 := N1.out
      unfold vqB at h9
      simp only [Bool.and_eq_true] at h9
      have := inB_t h9.1.1.1.2
      omega
    clear ht1 g3 g5 g6 g7
    obtain ⟨tl, htl⟩ : ∃ t, decide (ps.length = ats.length) = t := ⟨_, rfl⟩
    have NL := Lib.hid htl
    have ql : ((ps.length : Int) != (ats.length : Int)) = !tl := by rw [← htl]; by_cases q : ps.length = ats.length <;> simp [q]; omega
    obtain ⟨tt, htt⟩ : ∃ t, treeB ps = t := ⟨_, rfl⟩
    have NT := Lib.hid htt
    have HE := Lib.hid (show ivjB ((m : Int), ats, out) ps = (tl && tt && allF (fun v => decide (tops ats ps v = 1)) m 0) by unfold ivjB jtB; rw [N1.out, htl, htt]; simp)
    clear htl htt
    go_enter Try.func192, Try.ntmps192
    go_upto_region 1 with fail
    refine wp_name ?_
    intro W hW
    have xW : ∃ y, W = ext w y := by rw [hW.out]; exact (by refine x'z ?_; repeat (with_reducible (first | exact x'a _ _ | exact x'b _ | exact x'c (by assumption) | refine x'd ?_ (by assumption) | refine x'e ?_ _ | refine x'f ?_ _ | refine x'g ?_ | refine x'h ?_ ?_ _ | refine x'i ?_ _ | refine x'j ?_ | refine x'k ?_ _ | refine x'l ?_ _ _ | refine x'm ?_ | assumption | (refine x'n ?_; omega) | omega)))
    have BW0 : BoxAt W (w.heap.size) #[.int .i64 m, .slice A ats.length c, .slice B out.length e1] := by rw [hW.out]; refine ⟨?_, fun j => ?_, fun j => ?_⟩ <;> go_simp
    obtain ⟨lW0, bW0, fW0⟩ := BW0
    have cW0_0 : W.cell? ⟨w.heap.size, 0, none⟩ = some (.int .i64 m) := bW0 0
    have cW0_1 : W.cell? ⟨w.heap.size, 1, none⟩ = some (.slice A ats.length c) := bW0 1
    have cW0_2 : W.cell? ⟨w.heap.size, 2, none⟩ = some (.slice B out.length e1) := bW0 2
    have BW1 : BoxAt W (w.heap.size + 1) #[.slice C ps.length f1] := by rw [hW.out]; refine ⟨?_, fun j => ?_, fun j => ?_⟩ <;> go_simp
    obtain ⟨lW1, bW1, fW1⟩ := BW1
    have cW1_0 : W.cell? ⟨w.heap.size + 1, 0, none⟩ = some (.slice C ps.length f1) := bW1 0
    clear hW
    have PW : BoxAt W w.heap.size #[.int .i64 m, .slice A ats.length c, .slice B out.length e1] := ⟨lW0, bW0, fW0⟩
    have QW : BoxAt W (w.heap.size + 1) #[.slice C ps.length f1] := ⟨lW1, bW1, fW1⟩
    clear bW0 fW0 bW1 fW1
    cases tl with
    | false =>
      go_wp2_with (go_at_call 156; refine (IsValidQuery_any (d := ((m : Int), ats, out)) HB.out (VD.toExt HV.out (by refine x'z ?_; repeat (with_reducible (first | exact x'a _ _ | exact x'b _ | exact x'c (by assumption) | refine x'd ?_ (by assumption) | refine x'e ?_ _ | refine x'f ?_ _ | refine x'g ?_ | refine x'h ?_ ?_ _ | refine x'i ?_ _ | refine x'j ?_ | refine x'k ?_ _ | refine x'l ?_ _ _ | refine x'm ?_ | assumption | (refine x'n ?_; omega) | omega))))).mono ?_; rintro e w1 ⟨rfl, hx1⟩; rw [N1.out]; obtain ⟨l1, a1, a1', a1'', f2⟩ := box3 (PW.toExt hx1); obtain ⟨l2, a2, f3⟩ := box1 (QW.toExt hx1))
      go_ret
      exact ⟨by rw [HE.out]; rfl, (by refine x'z ?_; repeat (with_reducible (first | exact x'a _ _ | exact x'b _ | exact x'c (by assumption) | refine x'd ?_ (by assumption) | refine x'e ?_ _ | refine x'f ?_ _ | refine x'g ?_ | refine x'h ?_ ?_ _ | refine x'i ?_ _ | refine x'j ?_ | refine x'k ?_ _ | refine x'l ?_ _ _ | refine x'm ?_ | assumption | (refine x'n ?_; omega) | omega)))⟩
    | true =>
      have HPL : Hid (ps.length = ats.length) := Lib.hid (by simpa using NL.out)
      cases tt with
      | false =>
        go_wp2_with (first
          | (go_at_call 156; refine (IsValidQuery_any (d := ((m : Int), ats, out)) HB.out (VD.toExt HV.out (by refine x'z ?_; repeat (with_reducible (first | exact x'a _ _ | exact x'b _ | exact x'c (by assumption) | refine x'd ?_ (by assumption) | refine x'e ?_ _ | refine x'f ?_ _ | refine x'g ?_ | refine x'h ?_ ?_ _ | refine x'i ?_ _ | refine x'j ?_ | refine x'k ?_ _ | refine x'l ?_ _ _ | refine x'm ?_ | assumption | (refine x'n ?_; omega) | omega))))).mono ?_; rintro e w1 ⟨rfl, hx1⟩; rw [N1.out]; obtain ⟨l1, a1, a1', a1'', f2⟩ := box3 (PW.toExt hx1); obtain ⟨l2, a2, f3⟩ := box1 (QW.toExt hx1))
          | (go_at_call 197; refine (isTree_any hx (h1.toExt (by refine x'z ?_; repeat (with_reducible (first | exact x'a _ _ | exact x'b _ | exact x'c (by assumption) | refine x'd ?_ (by assumption) | refine x'e ?_ _ | refine x'f ?_ _ | refine x'g ?_ | refine x'h ?_ ?_ _ | refine x'i ?_ _ | refine x'j ?_ | refine x'k ?_ _ | refine x'l ?_ _ _ | refine x'm ?_ | assumption | (refine x'n ?_; omega) | omega))))).mono ?_; rintro e w2 ⟨rfl, rfl⟩; rw [NT.out]))
        go_ret
        exact ⟨by rw [HE.out]; rfl, (by refine x'z ?_; repeat (with_reducible (first | exact x'a _ _ | exact x'b _ | exact x'c (by assumption) | refine x'd ?_ (by assumption) | refine x'e ?_ _ | refine x'f ?_ _ | refine x'g ?_ | refine x'h ?_ ?_ _ | refine x'i ?_ _ | refine x'j ?_ | refine x'k ?_ _ | refine x'l ?_ _ _ | refine x'm ?_ | assumption | (refine x'n ?_; omega) | omega)))⟩
      | true =>
        have Hr : Hid (∀ j, j < ats.length → -1 ≤ ps.getD j 0 ∧ ps.getD j 0 ≤ (ats.length : Int) - 1) := Lib.hid fun j hj => by
          have := treeB_rng NT.out (j := j) (by rw [HPL.out]; exact hj)
          rw [HPL.out] at this
          exact this
        go_wp2_with (first
          | (go_at_call 156; refine (IsValidQuery_any (d := ((m : Int), ats, out)) HB.out (VD.toExt HV.out (by refine x'z ?_; repeat (with_reducible (first | exact x'a _ _ | exact x'b _ | exact x'c (by assumption) | refine x'd ?_ (by assumption) | refine x'e ?_ _ | refine x'f ?_ _ | refine x'g ?_ | refine x'h ?_ ?_ _ | refine x'i ?_ _ | refine x'j ?_ | refine x'k ?_ _ | refine x'l ?_ _ _ | refine x'm ?_ | assumption | (refine x'n ?_; omega) | omega))))).mono ?_; rintro e w1 ⟨rfl, hx1⟩; rw [N1.out]; have P1 := PW.toExt hx1; have Q1 := QW.toExt hx1; obtain ⟨l1, a1, a1', a1'', f2⟩ := box3 P1; obtain ⟨l2, a2, f3⟩ := box1 Q1)
          | (go_at_call 197; refine (isTree_any hx (h1.toExt (by refine x'z ?_; repeat (with_reducible (first | exact x'a _ _ | exact x'b _ | exact x'c (by assumption) | refine x'd ?_ (by assumption) | refine x'e ?_ _ | refine x'f ?_ _ | refine x'g ?_ | refine x'h ?_ ?_ _ | refine x'i ?_ _ | refine x'j ?_ | refine x'k ?_ _ | refine x'l ?_ _ _ | refine x'm ?_ | assumption | (refine x'n ?_; omega) | omega))))).mono ?_; rintro e w2 ⟨rfl, rfl⟩; rw [NT.out]))
        have hxw : ∃ y, w1 = ext w y := trans_ext xW hx1
        go_loopw [5, 30] (fun v i wr => ∃ (k : Nat) (F : List Nat), i = .int .i64 k ∧ k ≤ ats.length ∧ SV 48 1 (sW w1) wr v ((ats.take k).map (·.2)) F ∧ (∀ b ∈ F, w1.heap.size ≤ b) ∧ ∃ y, wr = ext w1 y) (fun _ i _ => ats.length - (intOf i).toNat)
        case atStart => exact ⟨0, [], rfl, by omega, SV.nil, by simp, refl_ext _⟩
        case round =>
          obtain ⟨k, F, rfl, hk, hS, hF, hy⟩ := hrel
          have HF := Lib.hid hF
          clear hF
          by_cases hlt : k < ats.length
          · obtain ⟨b, o, A', c', rfl, hb, hc, hd, hv⟩ := (ra.toExt hxw).atA hlt
            have HS := Lib.hid (show ((ats.take k).map (·.2)) ++ [ats[k].2] = (ats.take (k + 1)).map (·.2) by rw [List.take_succ_eq_append_getElem hlt, List.map_append]; rfl)
            have hlk : ((ats.take k).map (·.2)).length + 1 ≤ 2000000000 := by simp; omega
            obtain ⟨s, hs⟩ : ∃ s, ats[k].1 = s := ⟨_, rfl⟩
            obtain ⟨xs, hxs⟩ : ∃ xs, ats[k].2 = xs := ⟨_, rfl⟩
            rw [hs] at hc
            rw [hxs] at hd hv
            have HS : Hid (((ats.take k).map (·.2)) ++ [xs] = (ats.take (k + 1)).map (·.2)) := Lib.hid (by rw [← hxs]; exact HS.out)
            have hc' := cellX hy hb hc
            have hd' := cellX hy hb hd
            have hb' := ltX hy hb
            clear hs hxs hc hd
            go_wp2_with (at_builtin; refine wpList_app1 (E := sW w1) (d := xs) rfl _ _ _ rfl tIIr rfl rfl rfl (by simp) (fun _ => ⟨⟨A', c', rfl, hv⟩, rfl⟩) rfl (by simp [Value.oneCell']) (hS.toExt (by refine x'z ?_; repeat (with_reducible (first | exact x'a _ _ | exact x'b _ | exact x'c (by assumption) | refine x'd ?_ (by assumption) | refine x'e ?_ _ | refine x'f ?_ _ | refine x'g ?_ | refine x'h ?_ ?_ _ | refine x'i ?_ _ | refine x'j ?_ | refine x'k ?_ _ | refine x'l ?_ _ _ | refine x'm ?_ | assumption | (refine x'n ?_; omega) | omega)))) hlk (by omega) ?_; intro v' w' F' hS' hC' hF')
            exact ⟨⟨k + 1, F', by go_num, by omega, by rw [← HS.out]; exact hS', newer HF.out (size_of_ext (by refine x'z ?_; repeat (with_reducible (first | exact x'a _ _ | exact x'b _ | exact x'c (by assumption) | refine x'd ?_ (by assumption) | refine x'e ?_ _ | refine x'f ?_ _ | refine x'g ?_ | refine x'h ?_ ?_ _ | refine x'i ?_ _ | refine x'j ?_ | refine x'k ?_ _ | refine x'l ?_ _ _ | refine x'm ?_ | assumption | (refine x'n ?_; omega) | omega)))) hF', hC'.isExt (by refine x'z ?_; repeat (with_reducible (first | exact x'a _ _ | exact x'b _ | exact x'c (by assumption) | refine x'd ?_ (by assumption) | refine x'e ?_ _ | refine x'f ?_ _ | refine x'g ?_ | refine x'h ?_ ?_ _ | refine x'i ?_ _ | refine x'j ?_ | refine x'k ?_ _ | refine x'l ?_ _ _ | refine x'm ?_ | assumption | (refine x'n ?_; omega) | omega))) HF.out⟩, by simp [intOf]; omega⟩
          · rw [List.take_of_length_le (by omega)] at hS
            obtain ⟨A5, c5, rfl, _, _, hV⟩ := hS.view (V := vS0) (fun c d F h => VD.toExt h.1 hy)
            rw [List.length_map] at *
            go_wp2
            go_loopw [8] (fun i ws => ∃ v : Nat, i = .int .i64 v ∧ v ≤ m ∧ (∃ y, ws = ext wr y) ∧ Hid (allF (fun v => decide (tops ats ps v = 1)) (m - v) v = allF (fun v => decide (tops ats ps v = 1)) m 0)) (fun i _ => m - (intOf i).toNat)
            case atStart => exact ⟨0, rfl, by omega, refl_ext _, Lib.hid rfl⟩
            case round =>
              obtain ⟨v, rfl, hvm, hyv, Hv⟩ := hrel
              obtain ⟨l3, a3, a3', a3'', f4⟩ := box3 (P1.toExt (trans_ext hy hyv))
              obtain ⟨l4, a4, f5⟩ := box1 (Q1.toExt (trans_ext hy hyv))
              by_cases hvl : v < m
              · have e := Hv.out
                rw [allF_step hvl] at e
                obtain ⟨T, hT⟩ : ∃ T, tops ats ps v = T := ⟨_, rfl⟩
                rw [hT] at e
                obtain ⟨te, hte⟩ : ∃ t, decide (T = 1) = t := ⟨_, rfl⟩
                have q2 : (T != 1) = !te := by rw [← hte]; by_cases q : T = 1 <;> simp [q]
                rw [hte] at e
                have HT := Lib.hid hT
                have He := Lib.hid e
                clear e hT hte Hv
                cases te with
                | false =>
                  go_wp2_with (go_at_call 198; refine (topsOf_any g4 Hx.out HPL Hr.out (hV.toExt hyv) (h1.toExt (trans_ext hxw (trans_ext hy hyv)))).mono ?_; rintro e w2 ⟨rfl, hx2⟩; rw [HT.out])
                  go_ret
                  exact ⟨by rw [HE.out, ← He.out]; rfl, trans_ext hxw (trans_ext hy (trans_ext hyv hx2))⟩
                | true =>
                  go_wp2_with (go_at_call 198; refine (topsOf_any g4 Hx.out HPL Hr.out (hV.toExt hyv) (h1.toExt (trans_ext hxw (trans_ext hy hyv)))).mono ?_; rintro e w2 ⟨rfl, hx2⟩; rw [HT.out])
                  exact ⟨⟨v + 1, by go_num, by omega, trans_ext hyv hx2, Lib.hid (by simpa using He.out)⟩, by simp [intOf]; omega⟩
              · have e := Hv.out
                rw [allF_end hvl] at e
                have He := Lib.hid e
                clear e Hv
                go_wp2
                go_ret
                exact ⟨by rw [HE.out, ← He.out]; rfl, trans_ext hxw (trans_ext hy hyv)⟩
end Go.Proofs.Ytfigcfajkilhiaa
namespace Go.Proofs.Ytfigcfajkilhiaa
open Go.RowKit
set_option maxRecDepth 100000 in
set_option maxHeartbeats 8000000 in
theorem treeFits_any {A B C D : Option Addr} {c e g f1 : Nat} {d : Dbd} {q : Qd} {ps : List Int} {w : World} (hd : WDb d) (h1 : RV 3 vTb w A d) (hb : BQ q) (h2 : vQ w [.int .i64 q.1, .slice B q.2.1.length e, .slice C q.2.2.length g] q) (hp : ps.length ≤ 100000000) (h3 : RI w D ps) :
    Calls Try.prog 165 #[.agg #[.slice A d.length c], .agg #[.int .i64 q.1, .slice B q.2.1.length e, .slice C q.2.2.length g], .agg #[.slice D ps.length f1]] w fun e w' => e = .returned (.bool (iqfB d q && ivjB q ps)) ∧ ∃ y, w' = ext w y := by
  have HD := Lib.hid hd
  have HB := Lib.hid hb
  have HV := Lib.hid h2
  obtain ⟨t1, ht1⟩ : ∃ t, iqfB d q = t := ⟨_, rfl⟩
  have HT1 := Lib.hid ht1
  obtain ⟨t2, ht2⟩ : ∃ t, ivjB q ps = t := ⟨_, rfl⟩
  have HT2 := Lib.hid ht2
  have HE := Lib.hid (show (iqfB d q && ivjB q ps) = (t1 && t2) by rw [ht1, ht2])
  clear ht1 ht2 hd hb h2
  go_enter Try.func165, Try.ntmps165
  go_upto_region 1 with fail
  refine wp_name ?_
  intro W hW
  have xW : ∃ y, W = ext w y := by rw [hW.out]; exact (by refine x'z ?_; repeat (with_reducible (first | exact x'a _ _ | exact x'b _ | exact x'c (by assumption) | refine x'd ?_ (by assumption) | refine x'e ?_ _ | refine x'f ?_ _ | refine x'g ?_ | refine x'h ?_ ?_ _ | refine x'i ?_ _ | refine x'j ?_ | refine x'k ?_ _ | refine x'l ?_ _ _ | refine x'm ?_ | assumption | (refine x'n ?_; omega) | omega)))
  have PW : BoxAt W w.heap.size #[.slice A d.length c] := by rw [hW.out]; refine ⟨?_, fun j => ?_, fun j => ?_⟩ <;> go_simp
  have QW : BoxAt W (w.heap.size + 1) #[.int .i64 q.1, .slice B q.2.1.length e, .slice C q.2.2.length g] := by rw [hW.out]; refine ⟨?_, fun j => ?_, fun j => ?_⟩ <;> go_simp
  have TW : BoxAt W (w.heap.size + 1 + 1) #[.slice D ps.length f1] := by rw [hW.out]; refine ⟨?_, fun j => ?_, fun j => ?_⟩ <;> go_simp
  obtain ⟨lp, p0, fp⟩ := bx1 PW
  obtain ⟨lq, q0, q1, q2, fq⟩ := box3 QW
  obtain ⟨lt, r0, ft⟩ := bx1 TW
  clear hW
  cases t1 <;> cases t2
  all_goals
    go_wp2_with (first
      | (go_at_call 74; refine (IsQueryFor_any HD.out (h1.toExt xW) HB.out (VD.toExt HV.out xW)).mono ?_; rintro e w1 ⟨rfl, hx1⟩; rw [HT1.out]; obtain ⟨lq1, q10, q11, q12, fq1⟩ := box3 (QW.toExt hx1); obtain ⟨lt1, r10, ft1⟩ := bx1 (TW.toExt hx1))
      | (go_at_call 192; refine (IsValidJoinTree_any HB.out (VD.toExt HV.out (trans_ext xW hx1)) hp (h3.toExt (trans_ext xW hx1))).mono ?_; rintro e w2 ⟨rfl, hx2⟩; rw [HT2.out]))
    go_ret
    first
      | exact ⟨by rw [HE.out]; rfl, trans_ext xW (trans_ext hx1 hx2)⟩
      | exact ⟨by rw [HE.out]; rfl, trans_ext xW hx1⟩
end Go.Proofs.Ytfigcfajkilhiaa
namespace Go.Proofs.Ytfigcfajkilhiaa
open Go.RowKit
theorem bfsF_len {ps L : List Int} : ∀ (f k : Nat) (out : List Int), bfsF ps f k out = L → L ≠ [] → out.length ≤ L.length
  | 0, _, _, h, hn => absurd (by rw [← h]; rfl) hn
  | f + 1, k, out, h, hn => by
    rw [bfsF] at h
    split at h
    · have := bfsF_len f _ _ h hn
      rw [List.length_append] at this
      omega
    · rw [h]; exact Nat.le_refl _
def rvL (L : List Int) (i : Nat) : List Int := (List.range L.length).map fun p => if p < i ∨ L.length - i ≤ p then L.getD (L.length - 1 - p) 0 else L.getD p 0
theorem rvL_len (L : List Int) (i : Nat) : (rvL L i).length = L.length := by simp [rvL]
theorem rvL_get {L : List Int} {i p : Nat} (h : p < L.length) : (rvL L i).getD p 0 = if p < i ∨ L.length - i ≤ p then L.getD (L.length - 1 - p) 0 else L.getD p 0 := by
  have hl : p < (rvL L i).length := by rw [rvL_len]; exact h
  rw [getDl _ _ hl]
  simp [rvL]
theorem ext_getD {a b : List Int} (hl : a.length = b.length) (h : ∀ p, p < a.length → a.getD p 0 = b.getD p 0) : a = b := by
  apply List.ext_getElem hl
  intro p h1 h2
  have := h p h1
  rwa [getDl _ _ h1, getDl _ _ h2] at this
theorem rvL_zero (L : List Int) : rvL L 0 = L := by
  refine ext_getD (rvL_len L 0) fun p hp => ?_
  rw [rvL_len] at hp
  rw [rvL_get hp, if_neg (by omega)]
theorem rvL_end {L : List Int} {i : Nat} (h : L.length ≤ 2 * i + 1) : rvL L i = L.reverse := by
  refine ext_getD (by rw [rvL_len, List.length_reverse]) fun p hp => ?_
  rw [rvL_len] at hp
  rw [rvL_get hp]
  have hr : L.reverse.getD p 0 = L.getD (L.length - 1 - p) 0 := by
    rw [getDl _ _ (by rw [List.length_reverse]; exact hp), List.getElem_reverse, getDl _ _ (show L.length - 1 - p < L.length by omega)]
  rw [hr]
  split
  · rfl
  · rw [show L.length - 1 - p = p by omega]
theorem set_getD {a : List Int} {p j : Nat} {x : Int} : (a.set j x).getD p 0 = if p = j ∧ j < a.length then x else a.getD p 0 := by
  by_cases hp : p < a.length
  · rw [getDl _ _ (by rw [List.length_set]; exact hp), List.getElem_set]
    by_cases e : j = p
    · subst e; rw [if_pos rfl, if_pos ⟨rfl, hp⟩]
    · rw [if_neg e, if_neg (fun k => e k.1.symm), getDl _ _ hp]
  · have h1 : (a.set j x).getD p 0 = 0 := by rw [List.getD_eq_getElem?_getD, List.getElem?_eq_none (by rw [List.length_set]; omega)]; rfl
    have h2 : a.getD p 0 = 0 := by rw [List.getD_eq_getElem?_getD, List.getElem?_eq_none (by omega)]; rfl
    rw [h1, h2, if_neg (fun k => hp (by omega))]
theorem rvL_step {L : List Int} {i j : Nat} (hj : j = L.length - 1 - i) (h : i < j) : rvL L (i + 1) = ((rvL L i).set i ((rvL L i).getD j 0)).set j ((rvL L i).getD i 0) := by
  refine ext_getD (by rw [List.length_set, List.length_set, rvL_len, rvL_len]) fun p hp => ?_
  rw [rvL_len] at hp
  rw [rvL_get hp, set_getD, List.length_set, set_getD, rvL_len, rvL_get (show i < L.length by omega), rvL_get (show j < L.length by omega), rvL_get hp]
  rw [if_neg (show ¬ (i < i ∨ L.length - i ≤ i) by omega), if_neg (show ¬ (j < i ∨ L.length - i ≤ j) by omega)]
  by_cases h1 : p = j
  · subst h1
    rw [if_pos (show p < i + 1 ∨ L.length - (i + 1) ≤ p by omega), if_pos ⟨rfl, by omega⟩, show L.length - 1 - p = i by omega]
  · rw [if_neg (show ¬ (p = j ∧ j < L.length) from fun k => h1 k.1)]
    by_cases h2 : p = i
    · subst h2
      rw [if_pos (show p < p + 1 ∨ L.length - (p + 1) ≤ p by omega), if_pos ⟨rfl, by omega⟩, show L.length - 1 - p = j by omega]
    · rw [if_neg (show ¬ (p = i ∧ i < L.length) from fun k => h2 k.1)]
      by_cases h3 : p < i ∨ L.length - i ≤ p
      · rw [if_pos h3, if_pos (show p < i + 1 ∨ L.length - (i + 1) ≤ p by omega)]
      · rw [if_neg h3, if_neg (show ¬ (p < i + 1 ∨ L.length - (i + 1) ≤ p) by omega)]
end Go.Proofs.Ytfigcfajkilhiaa
