/- Contracts of functions that the statement reaches. -/
import Derived.Test.YtfigcfajkilhiaaGreatE27
import Derived.Test.YtfigcfajkilhiaaGreatE28
import Derived.Test.YtfigcfajkilhiaaGreatE29
import Derived.Test.YtfigcfajkilhiaaGreatE31
import Derived.Test.YtfigcfajkilhiaaGreatE14
namespace Go.Proofs.YtfigcfajkilhiaaGreat
open Go.RowKit
theorem mem_takeD {o : List Int} {k m : Nat} (h : k < m) (hl : k < o.length) : o.getD k 0 ∈ o.take m := by
  rw [getDl _ _ hl]
  have : k < (o.take m).length := by rw [List.length_take]; omega
  have e : (o.take m)[k] = o[k] := List.getElem_take
  rw [← e]
  exact List.getElem_mem this
set_option maxRecDepth 100000 in
set_option maxHeartbeats 16000000 in
theorem specFullReduction_any {A B C D : Option Addr} {c e g f1 : Nat} {d : Dbd} {q : Qd} {ps : List Int} {w : World} (hd : WDb d) (h1 : RV 3 vTb w A d) (hb : BQ q) (h2 : vQ w [.int .i64 q.1, .slice B q.2.1.length e, .slice C q.2.2.length g] q) (hp : ps.length ≤ 100000000) (h3 : RI w D ps) :
    Calls Tryz.prog 8 #[.agg #[.slice A d.length c], .agg #[.int .i64 q.1, .slice B q.2.1.length e, .slice C q.2.2.length g], .agg #[.slice D ps.length f1]] w (FrP (fullR d q ps) w) := by
  have HD := Lib.hid hd
  have HB := Lib.hid hb
  have HV := Lib.hid h2
  obtain ⟨t, ht⟩ : ∃ t, (iqfB d q && ivjB q ps) = t := ⟨_, rfl⟩
  have HT := Lib.hid ht
  have HF0 := Lib.hid (fun (h : t = false) => show fullR d q ps = none by
    unfold fullR
    rw [if_neg]
    rw [← Bool.and_eq_true, ht, h]
    simp)
  clear hd hb h2 ht
  go_enter Tryz.func8, Tryz.ntmps8
  go_upto_region 1 with fail
  refine wp_name ?_
  intro W hW
  have xW : ∃ y, W = ext w y := by rw [hW.out]; exact (by refine x'z ?_; repeat (with_reducible (first | exact x'a _ _ | exact x'b _ | exact x'c (by assumption) | refine x'd ?_ (by assumption) | refine x'e ?_ _ | refine x'f ?_ _ | refine x'g ?_ | refine x'h ?_ ?_ _ | refine x'i ?_ _ | refine x'j ?_ | refine x'k ?_ _ | refine x'l ?_ _ _ | refine x'm ?_ | assumption | (refine x'n ?_; omega) | omega)))
  have PW : BoxAt W w.heap.size #[.slice A d.length c] := by rw [hW.out]; refine ⟨?_, fun j => ?_, fun j => ?_⟩ <;> go_simp
  have QW : BoxAt W (w.heap.size + 1) #[.int .i64 q.1, .slice B q.2.1.length e, .slice C q.2.2.length g] := by rw [hW.out]; refine ⟨?_, fun j => ?_, fun j => ?_⟩ <;> go_simp
  have TW : BoxAt W (w.heap.size + 1 + 1) #[.slice D ps.length f1] := by rw [hW.out]; refine ⟨?_, fun j => ?_, fun j => ?_⟩ <;> go_simp
  obtain ⟨lp, p0, fp⟩ := bx1 PW
  obtain ⟨lq, q0, q1, q2, fq⟩ := box3 QW
  obtain ⟨lt, r0, ft⟩ := bx1 TW
  have hWw := TW.1
  clear hW
  cases t with
  | false =>
    have HZ := Lib.hid (HF0.out rfl)
    obtain ⟨t1, ht1⟩ : ∃ t, iqfB d q = t := ⟨_, rfl⟩
    have HT1 := Lib.hid ht1
    have HT2 := Lib.hid (fun (h : t1 = true) => show ivjB q ps = false by have h9 := HT.out; rw [ht1, h, Bool.true_and] at h9; exact h9)
    clear ht1
    have hz0 := size_of_ext xW
    cases t1 with
    | false =>
      go_wp2_with (go_at_call 30; refine (specIsQueryFor_any HD.out (h1.toExt (trans_ext xW (by refine x'z ?_; repeat (with_reducible (first | exact x'a _ _ | exact x'b _ | exact x'c (by assumption) | refine x'd ?_ (by assumption) | refine x'e ?_ _ | refine x'f ?_ _ | refine x'g ?_ | refine x'h ?_ ?_ _ | refine x'i ?_ _ | refine x'j ?_ | refine x'k ?_ _ | refine x'l ?_ _ _ | refine x'm ?_ | assumption | (refine x'n ?_; omega) | omega))))) HB.out (VD.toExt HV.out (trans_ext xW (by refine x'z ?_; repeat (with_reducible (first | exact x'a _ _ | exact x'b _ | exact x'c (by assumption) | refine x'd ?_ (by assumption) | refine x'e ?_ _ | refine x'f ?_ _ | refine x'g ?_ | refine x'h ?_ ?_ _ | refine x'i ?_ _ | refine x'j ?_ | refine x'k ?_ _ | refine x'l ?_ _ _ | refine x'm ?_ | assumption | (refine x'n ?_; omega) | omega)))))).mono ?_; rintro e w1 ⟨rfl, hx1⟩; rw [HT1.out])
      refine bodyPost_ret (v := .tuple #[.slice (some ⟨W.heap.size, 0, none⟩) 0 0, .bool false]) (by simp [results, Tryz.results8, go_sem, *]) rfl ?_
      rw [HZ.out]
      exact ⟨_, [W.heap.size], rfl, trans_ext xW (by refine x'z ?_; repeat (with_reducible (first | exact x'a _ _ | exact x'b _ | exact x'c (by assumption) | refine x'd ?_ (by assumption) | refine x'e ?_ _ | refine x'f ?_ _ | refine x'g ?_ | refine x'h ?_ ?_ _ | refine x'i ?_ _ | refine x'j ?_ | refine x'k ?_ _ | refine x'l ?_ _ _ | refine x'm ?_ | assumption | (refine x'n ?_; omega) | omega))), (SV.empty W).toExt hx1, by simp, by simp; omega⟩
    | true =>
      have HT3 := Lib.hid (HT2.out rfl)
      go_wp2_with (first | (go_at_call 30; refine (specIsQueryFor_any HD.out (h1.toExt (trans_ext xW (by refine x'z ?_; repeat (with_reducible (first | exact x'a _ _ | exact x'b _ | exact x'c (by assumption) | refine x'd ?_ (by assumption) | refine x'e ?_ _ | refine x'f ?_ _ | refine x'g ?_ | refine x'h ?_ ?_ _ | refine x'i ?_ _ | refine x'j ?_ | refine x'k ?_ _ | refine x'l ?_ _ _ | refine x'm ?_ | assumption | (refine x'n ?_; omega) | omega))))) HB.out (VD.toExt HV.out (trans_ext xW (by refine x'z ?_; repeat (with_reducible (first | exact x'a _ _ | exact x'b _ | exact x'c (by assumption) | refine x'd ?_ (by assumption) | refine x'e ?_ _ | refine x'f ?_ _ | refine x'g ?_ | refine x'h ?_ ?_ _ | refine x'i ?_ _ | refine x'j ?_ | refine x'k ?_ _ | refine x'l ?_ _ _ | refine x'm ?_ | assumption | (refine x'n ?_; omega) | omega)))))).mono ?_; rintro e w1 ⟨rfl, hx1⟩; rw [HT1.out]; have hxw1 : ∃ y, w1 = ext W y := (by refine x'z ?_; repeat (with_reducible (first | exact x'a _ _ | exact x'b _ | exact x'c (by assumption) | refine x'd ?_ (by assumption) | refine x'e ?_ _ | refine x'f ?_ _ | refine x'g ?_ | refine x'h ?_ ?_ _ | refine x'i ?_ _ | refine x'j ?_ | refine x'k ?_ _ | refine x'l ?_ _ _ | refine x'm ?_ | assumption | (refine x'n ?_; omega) | omega))); obtain ⟨lq1, q10, q11, q12, fq1⟩ := box3 (QW.toExt hxw1); obtain ⟨lt1, r01, ft1⟩ := bx1 (TW.toExt hxw1)) | (go_at_call 31; refine (specIsValidJoinTree_any HB.out (VD.toExt HV.out (trans_ext xW (by refine x'z ?_; repeat (with_reducible (first | exact x'a _ _ | exact x'b _ | exact x'c (by assumption) | refine x'd ?_ (by assumption) | refine x'e ?_ _ | refine x'f ?_ _ | refine x'g ?_ | refine x'h ?_ ?_ _ | refine x'i ?_ _ | refine x'j ?_ | refine x'k ?_ _ | refine x'l ?_ _ _ | refine x'm ?_ | assumption | (refine x'n ?_; omega) | omega))))) hp (h3.toExt (trans_ext xW (by refine x'z ?_; repeat (with_reducible (first | exact x'a _ _ | exact x'b _ | exact x'c (by assumption) | refine x'd ?_ (by assumption) | refine x'e ?_ _ | refine x'f ?_ _ | refine x'g ?_ | refine x'h ?_ ?_ _ | refine x'i ?_ _ | refine x'j ?_ | refine x'k ?_ _ | refine x'l ?_ _ _ | refine x'm ?_ | assumption | (refine x'n ?_; omega) | omega)))))).mono ?_; rintro e w2 ⟨rfl, hx2⟩; rw [HT3.out]))
      refine bodyPost_ret (v := .tuple #[.slice (some ⟨W.heap.size, 0, none⟩) 0 0, .bool false]) (by simp [results, Tryz.results8, go_sem, *]) rfl ?_
      rw [HZ.out]
      exact ⟨_, [W.heap.size], rfl, trans_ext xW (by refine x'z ?_; repeat (with_reducible (first | exact x'a _ _ | exact x'b _ | exact x'c (by assumption) | refine x'd ?_ (by assumption) | refine x'e ?_ _ | refine x'f ?_ _ | refine x'g ?_ | refine x'h ?_ ?_ _ | refine x'i ?_ _ | refine x'j ?_ | refine x'k ?_ _ | refine x'l ?_ _ _ | refine x'm ?_ | assumption | (refine x'n ?_; omega) | omega))), (SV.empty W).toExt (trans_ext hx1 hx2), by simp, by simp; omega⟩
  | true =>
    obtain ⟨hq1, hq2⟩ := Bool.and_eq_true_iff.1 HT.out
    have hjt : jtB q.1.toNat q.2.1 ps = true := by unfold ivjB at hq2; rw [Bool.and_eq_true] at hq2; exact hq2.2
    obtain ⟨r, hY⟩ := yan hq1 hjt
    have HZ := Lib.hid (show fullR d q ps = some (fullD d q (prs ps (ordL ps))) by unfold fullR; rw [if_pos ⟨hq1, hq2⟩, hY.full_eq hY.ord.up hY.ord.od])
    have HQ1 := Lib.hid hq1
    have HQ2 := Lib.hid hq2
    have HORD := Lib.hid hY.ord
    have HRT := Lib.hid hY.ord.root
    have HUI := Lib.hid hY.ord.oi
    have hnn := hY.n
    have hn4 := hY.n4
    have hn1 := hY.n1
    have HPI := Lib.hid (show ∀ x ∈ ps, x < (ps.length : Int) from fun x hx => by
      have htb : treeB ps = true := by unfold jtB at hjt; rw [Bool.and_eq_true, Bool.and_eq_true] at hjt; exact hjt.1.2
      have := (treeB_in htb x hx).2
      omega)
    have HUL := Lib.hid (show (ordL ps).length = ps.length from hY.ord.ol)
    have HPO := Lib.hid (show ∀ i ∈ (ordL ps).take (ps.length - 1), 0 ≤ ps.getD i.toNat 0 by rw [← hY.ord.ol]; exact hY.ord.pos)
    have HRL := Lib.hid (show ps.getD ((ordL ps).getD (ps.length - 1) 0).toNat 0 = -1 by rw [← hY.ord.ol]; exact hY.ord.last)
    have HAX := Lib.hid (show ∀ x ∈ q.2.1, x.2.length ≤ 1000000000 from fun x hx => by have := (HB.out.2.1.each x hx).2; omega)
    have HPN := Lib.hid hnn
    have HAV := Lib.hid (vAts_get (vQ_get HV.out).1).2
    clear hq1 hq2 hjt hY hnn
    go_upto_region 4 with (first | (go_at_call 30; refine (specIsQueryFor_any HD.out (h1.toExt (trans_ext xW (by refine x'z ?_; repeat (with_reducible (first | exact x'a _ _ | exact x'b _ | exact x'c (by assumption) | refine x'd ?_ (by assumption) | refine x'e ?_ _ | refine x'f ?_ _ | refine x'g ?_ | refine x'h ?_ ?_ _ | refine x'i ?_ _ | refine x'j ?_ | refine x'k ?_ _ | refine x'l ?_ _ _ | refine x'm ?_ | assumption | (refine x'n ?_; omega) | omega))))) HB.out (VD.toExt HV.out (trans_ext xW (by refine x'z ?_; repeat (with_reducible (first | exact x'a _ _ | exact x'b _ | exact x'c (by assumption) | refine x'd ?_ (by assumption) | refine x'e ?_ _ | refine x'f ?_ _ | refine x'g ?_ | refine x'h ?_ ?_ _ | refine x'i ?_ _ | refine x'j ?_ | refine x'k ?_ _ | refine x'l ?_ _ _ | refine x'm ?_ | assumption | (refine x'n ?_; omega) | omega)))))).mono ?_; rintro e w0 ⟨rfl, hx0⟩; rw [HQ1.out]; have hxw0 : ∃ y, w0 = ext W y := (by refine x'z ?_; repeat (with_reducible (first | exact x'a _ _ | exact x'b _ | exact x'c (by assumption) | refine x'd ?_ (by assumption) | refine x'e ?_ _ | refine x'f ?_ _ | refine x'g ?_ | refine x'h ?_ ?_ _ | refine x'i ?_ _ | refine x'j ?_ | refine x'k ?_ _ | refine x'l ?_ _ _ | refine x'm ?_ | assumption | (refine x'n ?_; omega) | omega))); obtain ⟨lq0, q00, q01, q02, fq0⟩ := box3 (QW.toExt hxw0); obtain ⟨lt0, r00, ft0⟩ := bx1 (TW.toExt hxw0)) | (go_at_call 31; refine (specIsValidJoinTree_any HB.out (VD.toExt HV.out (trans_ext xW (by refine x'z ?_; repeat (with_reducible (first | exact x'a _ _ | exact x'b _ | exact x'c (by assumption) | refine x'd ?_ (by assumption) | refine x'e ?_ _ | refine x'f ?_ _ | refine x'g ?_ | refine x'h ?_ ?_ _ | refine x'i ?_ _ | refine x'j ?_ | refine x'k ?_ _ | refine x'l ?_ _ _ | refine x'm ?_ | assumption | (refine x'n ?_; omega) | omega))))) hp (h3.toExt (trans_ext xW (by refine x'z ?_; repeat (with_reducible (first | exact x'a _ _ | exact x'b _ | exact x'c (by assumption) | refine x'd ?_ (by assumption) | refine x'e ?_ _ | refine x'f ?_ _ | refine x'g ?_ | refine x'h ?_ ?_ _ | refine x'i ?_ _ | refine x'j ?_ | refine x'k ?_ _ | refine x'l ?_ _ _ | refine x'm ?_ | assumption | (refine x'n ?_; omega) | omega)))))).mono ?_; rintro e w1 ⟨rfl, hx10⟩; rw [HQ2.out]; obtain ⟨lq1, q10, q11, q12, fq1⟩ := box3 (QW.toExt (trans_ext hxw0 hx10))))
    have hx1 := trans_ext hxw0 hx10
    have HE0 := Lib.hid ((SV.empty (α := VRd) (te := 69) (size := 3) (E := sVR) W).toExt (trans_ext hx0 hx10))
    obtain ⟨n, hn⟩ : ∃ n, q.2.1.length = n := ⟨_, rfl⟩
    have HQN := Lib.hid hn
    have HPN := Lib.hid (show ps.length = n by rw [HPN.out, hn])
    have HUL := Lib.hid (show (ordL ps).length = n by rw [HUL.out, HPN.out])
    rw [HPN.out] at HPO HRL
    rw [hn] at hn4 hn1 q11
    obtain ⟨bt, ot, rfl⟩ := h3.pl (by rw [HPN.out]; omega)
    have HPT := Lib.hid h3
    clear h3
    have hxw1 := trans_ext xW hx1
    have hzw := size_of_ext xW
    have hzw1 := size_of_ext hx1
    clear hn lp p0 fp lq q0 q1 q2 fq lt r0 ft lq0 q00 q01 q02 fq0 lt0 r00 ft0 hx0 hxw0 hx10
    go_wp2_with fail
    clear lq1 q10 q11 q12 fq1
    go_loopw [8, 9] (fun v i wr => ∃ (k : Nat) (F : List Nat), i = .int .i64 k ∧ k ≤ n ∧ Hid (SV 69 3 sVR wr v ((q.2.1.take k).map (atomVR d)) F) ∧ Hid F.Nodup ∧ Hid (∀ b ∈ F, W.heap.size ≤ b) ∧ ∃ y, wr = ext W y) (fun _ i _ => n - (intOf i).toNat)
    case atStart => exact ⟨0, [W.heap.size], rfl, by omega, HE0, Lib.hid (by simp), Lib.hid (by simp), hx1⟩
    case round =>
      obtain ⟨k, F, rfl, hk, HS, HN, HF, hy⟩ := hrel
      have hyw := trans_ext xW hy
      have hzy := size_of_ext hy
      obtain ⟨lp, p0, fp⟩ := bx1 (PW.toExt hy)
      obtain ⟨lq, q0, q1, q2, fq⟩ := box3 (QW.toExt hy)
      rw [HQN.out] at q1
      by_cases hlt : k < n
      · have hlk : ((q.2.1.take k).map (atomVR d)).length = k := by rw [List.length_map, List.length_take, HQN.out]; omega
        obtain ⟨A8, c8, rfl, _, _⟩ := HS.out.form
        have hkq : k < q.2.1.length := by rw [HQN.out]; exact hlt
        have HT1 := Lib.hid (show (q.2.1.take (k + 1)).map (atomVR d) = (q.2.1.take k).map (atomVR d) ++ [atomVR d q.2.1[k]] by rw [List.take_succ_eq_append_getElem hkq, List.map_append]; rfl)
        have hx9 := HAX.out _ (List.getElem_mem hkq)
        obtain ⟨b, o, A1, c1, rfl, hbb, hc0, hc1, hvx⟩ := (HAV.out.toExt hyw).atA hkq
        obtain ⟨x, hx⟩ : ∃ x, q.2.1[k] = x := ⟨_, rfl⟩
        rw [hx] at hc0 hc1 hvx HT1 hx9
        obtain ⟨s, xs⟩ := x
        dsimp only at hc0 hc1 hvx hx9
        have HVX := Lib.hid hvx
        have HLK := Lib.hid hlk
        have HS6 : Hid (SV 69 3 sVR wr (.slice A8 k c8) ((q.2.1.take k).map (atomVR d)) F) := Lib.hid (by have h := HS.out; rw [HLK.out] at h; exact h)
        rw [hlk]
        clear hx hvx hlk hkq HS
        go_upto_region 7 with fail
        go_region_law (first
          | (refine step_appB (E := sVR) (d := atomVR d (s, xs)) (G := F7) (cs := #[.slice A71 (atomVR d (s, xs)).1.length a71, .int .i64 (atomVR d (s, xs)).2.1, .slice A72 (atomVR d (s, xs)).2.2.length a72]) (by rfl) _ _ _ (by rfl) tVR (by rfl) (by rfl) (by exact BoxAt.new _ _ _) (OD.toExt (E := sVR) HS77.out (alloc_ext _ _)) (by rfl) (by simp [Value.oneCell']) (HS7.out.toExt (by refine x'z ?_; repeat (with_reducible (first | exact x'a _ _ | exact x'b _ | exact x'c (by assumption) | refine x'd ?_ (by assumption) | refine x'e ?_ _ | refine x'f ?_ _ | refine x'g ?_ | refine x'h ?_ ?_ _ | refine x'i ?_ _ | refine x'j ?_ | refine x'k ?_ _ | refine x'l ?_ _ _ | refine x'm ?_ | assumption | (refine x'n ?_; omega) | omega)))) HNN.out (by rw [HLK.out]; omega) (by omega) ?_; intro v8 w8 F8 hS8 hC8 hN8 hF8; obtain ⟨A9, c9, rfl, _, _⟩ := hS8.form; rw [show ((q.2.1.take k).map (atomVR d) ++ [atomVR d (s, xs)]).length = k + 1 by rw [List.length_append, HLK.out]; rfl] at hS8 ⊢)
          | (rw [if_pos (by simp [Region.wanted])]; go_wp2_with (go_at_call 32; refine (specAtomRelation_x HD.out (h1.toExt (trans_ext hyw (by refine x'z ?_; repeat (with_reducible (first | exact x'a _ _ | exact x'b _ | exact x'c (by assumption) | refine x'd ?_ (by assumption) | refine x'e ?_ _ | refine x'f ?_ _ | refine x'g ?_ | refine x'h ?_ ?_ _ | refine x'i ?_ _ | refine x'j ?_ | refine x'k ?_ _ | refine x'l ?_ _ _ | refine x'm ?_ | assumption | (refine x'n ?_; omega) | omega))))) hx9 (HVX.out.toExt (by refine x'z ?_; repeat (with_reducible (first | exact x'a _ _ | exact x'b _ | exact x'c (by assumption) | refine x'd ?_ (by assumption) | refine x'e ?_ _ | refine x'f ?_ _ | refine x'g ?_ | refine x'h ?_ ?_ _ | refine x'i ?_ _ | refine x'j ?_ | refine x'k ?_ _ | refine x'l ?_ _ _ | refine x'm ?_ | assumption | (refine x'n ?_; omega) | omega))))).mono ?_; rintro e w7 ⟨u0, u1, u2, F7, rfl, hx7, hS7, hN7, hF7⟩; obtain ⟨A71, a71, A72, a72, rfl, rfl, rfl⟩ := sVR_form hS7; have HS77 := Lib.hid hS7; have hx7r : ∃ y, w7 = ext wr y := (by refine x'z ?_; repeat (with_reducible (first | exact x'a _ _ | exact x'b _ | exact x'c (by assumption) | refine x'd ?_ (by assumption) | refine x'e ?_ _ | refine x'f ?_ _ | refine x'g ?_ | refine x'h ?_ ?_ _ | refine x'i ?_ _ | refine x'j ?_ | refine x'k ?_ _ | refine x'l ?_ _ _ | refine x'm ?_ | assumption | (refine x'n ?_; omega) | omega))); have HS7 := Lib.hid (HS6.out.toExt hx7r); have HNN := Lib.hid (nodup_more HN.out hN7 HS6.out.lt (fun b hb => Nat.le_trans (size_of_ext (by refine x'z ?_; repeat (with_reducible (first | exact x'a _ _ | exact x'b _ | exact x'c (by assumption) | refine x'd ?_ (by assumption) | refine x'e ?_ _ | refine x'f ?_ _ | refine x'g ?_ | refine x'h ?_ ?_ _ | refine x'i ?_ _ | refine x'j ?_ | refine x'k ?_ _ | refine x'l ?_ _ _ | refine x'm ?_ | assumption | (refine x'n ?_; omega) | omega)))) (hF7 b hb))))))
        all_goals
          have hz7 := size_of_ext hx7r
          have hF77 : ∀ b ∈ F7, wr.heap.size ≤ b := fun b hb => Nat.le_trans (size_of_ext (by refine x'z ?_; repeat (with_reducible (first | exact x'a _ _ | exact x'b _ | exact x'c (by assumption) | refine x'd ?_ (by assumption) | refine x'e ?_ _ | refine x'f ?_ _ | refine x'g ?_ | refine x'h ?_ ?_ _ | refine x'i ?_ _ | refine x'j ?_ | refine x'k ?_ _ | refine x'l ?_ _ _ | refine x'm ?_ | assumption | (refine x'n ?_; omega) | omega)))) (hF7 b hb)
          have hzy7 := size_of_ext (trans_ext hy hx7r)
          rw [← HT1.out] at hS8
          have HS8 := Lib.hid hS8
          have HN8 := Lib.hid hN8
          have HF8 := Lib.hid (show ∀ b ∈ F8, W.heap.size ≤ b from fun b hb => by
            rcases hF8 b hb with h | h | h
            · exact HF.out b h
            · have := hF77 b h; omega
            · simp at h; omega)
          have hy8 := hC8.isExt (trans_ext (trans_ext hy hx7r) (by refine x'z ?_; repeat (with_reducible (first | exact x'a _ _ | exact x'b _ | exact x'c (by assumption) | refine x'd ?_ (by assumption) | refine x'e ?_ _ | refine x'f ?_ _ | refine x'g ?_ | refine x'h ?_ ?_ _ | refine x'i ?_ _ | refine x'j ?_ | refine x'k ?_ _ | refine x'l ?_ _ _ | refine x'm ?_ | assumption | (refine x'n ?_; omega) | omega)))) HF.out
          clear hS8 hN8 hF8 hS7
          go_wp2_with fail
          exact ⟨⟨k + 1, F8, by go_num, by omega, HS8, HN8, HF8, hy8⟩, by simp [intOf]; omega⟩
      · have e0 : k = n := by omega
        have HDZ := Lib.hid (full_steps d q ps (ordL ps))
        have HOK0 := Lib.hid (OkDs.start d q.2.1)
        have hS0 := HS.out
        rw [e0, List.take_of_length_le (show q.2.1.length ≤ n by rw [HQN.out]; omega)] at hS0
        have HS0 := Lib.hid hS0
        clear hS0
        have HLD0 := Lib.hid (show (q.2.1.map (atomVR d)).length = n by rw [List.length_map, HQN.out])
        obtain ⟨D0, hD0⟩ : ∃ D, q.2.1.map (atomVR d) = D := ⟨_, rfl⟩
        rw [hD0] at HS0 HLD0 HOK0 HDZ
        obtain ⟨ga, c8, hv8, hgF, _, _⟩ := HS0.out.block (by intro h; have h2 := HLD0.out; rw [h] at h2; simp at h2; omega)
        rw [HLD0.out] at hv8
        subst hv8
        obtain ⟨lt, r0, ft⟩ := bx1 (TW.toExt hy)
        have hnk : ¬ ((k : Int) < (n : Int)) := by omega
        have hgaW := HF.out ga hgF
        have hgar := HS0.out.lt ga hgF
        obtain ⟨o, ho⟩ : ∃ o, ordL ps = o := ⟨_, rfl⟩
        have HOE := Lib.hid ho
        rw [ho] at HDZ HUI HUL HPO HRL
        clear e0 hD0 HS hgF ho
        go_upto_region 8 with fail
        go_cut [10] (fun vo wx => ∃ go co Fo, vo = .slice (some ⟨go, 0, none⟩) n co ∧ SV 3 1 sI wx (.slice (some ⟨go, 0, none⟩) n co) o Fo ∧ (∀ b ∈ Fo, wr.heap.size ≤ b) ∧ wr.heap.size ≤ go ∧ go < wx.heap.size ∧ ∃ y, wx = ext wr y)
        case first =>
          go_region_held3 (fun w' => (∀ a : Addr, a.block < wr.heap.size → w'.cell? a = wr.cell? a) ∧ ∃ y, w' = ext wr y) (first | exact heldE (by refine x'z ?_; repeat (with_reducible (first | exact x'a _ _ | exact x'b _ | exact x'c (by assumption) | refine x'd ?_ (by assumption) | refine x'e ?_ _ | refine x'f ?_ _ | refine x'g ?_ | refine x'h ?_ ?_ _ | refine x'i ?_ _ | refine x'j ?_ | refine x'k ?_ _ | refine x'l ?_ _ _ | refine x'm ?_ | assumption | (refine x'n ?_; omega) | omega)))) (first
            | (go_at_call 34; refine (specJoinTreeRoot_any (by rw [HPN.out]; omega) (HPT.out.toExt (trans_ext hyw (by refine x'z ?_; repeat (with_reducible (first | exact x'a _ _ | exact x'b _ | exact x'c (by assumption) | refine x'd ?_ (by assumption) | refine x'e ?_ _ | refine x'f ?_ _ | refine x'g ?_ | refine x'h ?_ ?_ _ | refine x'i ?_ _ | refine x'j ?_ | refine x'k ?_ _ | refine x'l ?_ _ _ | refine x'm ?_ | assumption | (refine x'n ?_; omega) | omega)))))).mono ?_; rintro e w5 ⟨rfl, hx5⟩; rw [HRT.out])
            | (go_at_call 33; refine (ordL_any (by rw [HPN.out]; omega) HORD.out (HPT.out.toExt (trans_ext hyw (by refine x'z ?_; repeat (with_reducible (first | exact x'a _ _ | exact x'b _ | exact x'c (by assumption) | refine x'd ?_ (by assumption) | refine x'e ?_ _ | refine x'f ?_ _ | refine x'g ?_ | refine x'h ?_ ?_ _ | refine x'i ?_ _ | refine x'j ?_ | refine x'k ?_ _ | refine x'l ?_ _ _ | refine x'm ?_ | assumption | (refine x'n ?_; omega) | omega)))))).mono ?_; rintro e w6 ⟨v6, F6, rfl, hx6, hS6, hF6⟩; rw [HOE.out] at hS6))
          all_goals
            obtain ⟨go, co, hvo, hgoF, _, _⟩ := hS6.block (by intro h; have h2 := HUL.out; rw [h] at h2; simp at h2; omega)
            rw [HUL.out] at hvo
            subst hvo
            have hF9 : ∀ b ∈ F6, wr.heap.size ≤ b := fun b hb => Nat.le_trans (size_of_ext (by refine x'z ?_; repeat (with_reducible (first | exact x'a _ _ | exact x'b _ | exact x'c (by assumption) | refine x'd ?_ (by assumption) | refine x'e ?_ _ | refine x'f ?_ _ | refine x'g ?_ | refine x'h ?_ ?_ _ | refine x'i ?_ _ | refine x'j ?_ | refine x'k ?_ _ | refine x'l ?_ _ _ | refine x'm ?_ | assumption | (refine x'n ?_; omega) | omega)))) (hF6 b hb)
            have hgl := hS6.lt go hgoF
            go_wp2_with fail
            go_meet
            exact ⟨go, co, F6, rfl, hS6, hF9, hF9 go hgoF, hgl, (by refine x'z ?_; repeat (with_reducible (first | exact x'a _ _ | exact x'b _ | exact x'c (by assumption) | refine x'd ?_ (by assumption) | refine x'e ?_ _ | refine x'f ?_ _ | refine x'g ?_ | refine x'h ?_ ?_ _ | refine x'i ?_ _ | refine x'j ?_ | refine x'k ?_ _ | refine x'l ?_ _ _ | refine x'm ?_ | assumption | (refine x'n ?_; omega) | omega)))⟩
        obtain ⟨go, co, Fo, rfl, hSo, hFo, hgow, hgo9, hx9⟩ := hcut
        obtain ⟨w9, rfl⟩ : ∃ W, W = wc := ⟨_, rfl⟩
        have HLO := Lib.hid (show o.length = n from HUL.out)
        have HSO := Lib.hid hSo
        have HFO := Lib.hid (show ∀ b ∈ Fo, b ≠ ga from fun b hb e => by have := hFo b hb; omega)
        have HSA := Lib.hid (HS0.out.toExt hx9)
        have HX9 := Lib.hid (trans_ext hy hx9)
        have hz9 := size_of_ext hx9
        clear hSo hFo lt r0 ft hnk HS0 hx9 lp p0 fp lq q0 q1 q2 fq
        go_wp2_with fail
        obtain ⟨FA, hFA⟩ : ∃ G, F = G := ⟨_, rfl⟩
        go_loopw [11] (fun i wr => ∃ (k : Nat) (F : List Nat), i = .int .i64 k ∧ k + 1 ≤ n ∧ Hid (SV 69 3 sVR wr (.slice (some ⟨ga, 0, none⟩) n c8) (upD ps o k D0) F) ∧ Hid F.Nodup ∧ Hid (∀ b ∈ F, W.heap.size ≤ b) ∧ Hid (Chg [ga] w9 wr)) (fun i _ => n - (intOf i).toNat)
        case atStart => exact ⟨0, F, rfl, by omega, HSA, HN, HF, Lib.hid (Chg.refl _ _)⟩
        case round =>
          obtain ⟨k, F, rfl, hk, HS, HN, HF, HC⟩ := hrel
          have hyr : ∃ y, wr = ext W y := HC.out.isExt HX9.out (by simp; exact hgaW)
          have hzr := HC.out.size
          have hzW := size_of_ext hyr
          obtain ⟨lt, r0, ft⟩ := bx1 (TW.toExt hyr)
          have HSOr := Lib.hid (HSO.out.chg HC.out (fun b hb h => HFO.out b hb (List.mem_singleton.1 h)))
          by_cases hlt1 : k + 1 < n
          · have hlt : k < n := by omega
            have hkc : (k : Int) < (n : Int) - 1 := by omega
            have cok := cells_of HSOr.out (k := k) (by rw [HLO.out]; omega)
            obtain ⟨hi0, hi1⟩ := HUI.out (o.getD (k) 0) (mem_getD (by rw [HLO.out]; omega))
            rw [HPN.out] at hi1
            obtain ⟨i, hi⟩ : ∃ i : Nat, o.getD (k) 0 = (i : Int) := ⟨(o.getD (k) 0).toNat, by omega⟩
            rw [hi] at cok hi0 hi1
            have hil : i < n := by omega
            have hips : i < ps.length := by rw [HPN.out]; exact hil
            have hoi : o[k]'(by rw [HLO.out]; omega) = (i : Int) := by rw [← hi, getDl _ _ (show k < o.length by rw [HLO.out]; omega)]
            obtain ⟨hbt, cps⟩ := (HPT.out.toExt (trans_ext xW hyr)).atJ (k := i) (by rw [HPN.out]; exact hil)
            obtain ⟨p, hp⟩ : ∃ p, ps.getD i 0 = p := ⟨_, rfl⟩
            rw [hp] at cps
            have hgor : go < wr.heap.size := by omega
            have hi9 := hi
            clear hi hi0
            have hp0 : 0 ≤ p := by
              have h9 := HPO.out (o.getD k 0) (mem_takeD (by omega) (by rw [HLO.out]; omega))
              rw [hi9, Int.toNat_natCast, hp] at h9
              exact h9
            obtain ⟨pn, hpn⟩ : ∃ pn : Nat, p = (pn : Int) := ⟨p.toNat, by omega⟩
            subst hpn
            have hpl : pn < n := by have h9 := HPI.out (ps.getD i 0) (mem_getD (by rw [HPN.out]; exact hil)); rw [hp, HPN.out] at h9; omega
            go_upto_region 12 with fail
            refine wp_region_ext (by kernel_rfl) (by kernel_rfl) ?_
            repeat (go_big_quiet_step (fail))
            refine wpQuiet_nil ?_
            rintro _ ⟨zz, rfl⟩
            have hz2 : ∃ y, ext wr zz = ext wr y := ⟨zz, rfl⟩
            obtain ⟨wr2, hwr2⟩ : ∃ W, ext wr zz = W := ⟨_, rfl⟩
            rw [hwr2] at hz2 ⊢
            have HS := Lib.hid (HS.out.toExt hz2)
            have HC := Lib.hid (HC.out.trans0 hz2)
            have hzW : W.heap.size ≤ wr2.heap.size := Nat.le_trans hzW (size_of_ext hz2)
            have cok := cells_of (HSOr.out.toExt hz2) (k := k) (by rw [HLO.out]; omega)
            rw [hi9] at cok
            have hgor : go < wr2.heap.size := Nat.lt_of_lt_of_le hgor (size_of_ext hz2)
            clear hwr2 lt r0 ft hbt cps
            have HUPD := Lib.hid (upD_yes (ds := D0) (by rw [HLO.out]; exact hlt) hoi hp)
            have HOK := Lib.hid (upD_ok HOK0.out (by rw [HPN.out, HLD0.out]) HPI.out HUI.out k (by rw [HLO.out]; omega))
            have HLD := Lib.hid (show (upD ps o k D0).length = n by rw [upD_len, HLD0.out])
            clear hp hoi hi9
            obtain ⟨x, hx1, hx2, hbp, hbi⟩ := semi_at HOK.out (p := pn) (i := i) (by rw [HLD.out]; omega) (by rw [HLD.out]; omega)
            have HX1 := Lib.hid hx1
            have HX2 := Lib.hid hx2
            obtain ⟨Ap, ap, Bp, bp, cp0, cp1, cp2, hvp⟩ := vr_at HS.out HN.out (k := pn) (by rw [HLD.out]; omega)
            obtain ⟨Ai, ai, Bi, bi, ci0, ci1, ci2, hvi⟩ := vr_at HS.out HN.out (k := i) (by rw [HLD.out]; omega)
            obtain ⟨⟨⟨_, hu0⟩, hf0⟩, ⟨⟨_, hu1⟩, hf1⟩, ⟨⟨_, hu2⟩, hf2⟩, hgr⟩ := vr_cell HS.out HLD.out (k := pn) (by omega)
            obtain ⟨dp, hdp⟩ : ∃ x, (upD ps o k D0).getD pn zV = x := ⟨_, rfl⟩
            obtain ⟨di, hdi⟩ : ∃ x, (upD ps o k D0).getD i zV = x := ⟨_, rfl⟩
            rw [hdp] at cp0 cp1 cp2 hvp hbp
            rw [hdi] at ci0 ci1 ci2 hvi hbi
            have HX1 := Lib.hid (show semiR dp di = some x by rw [← hdp, ← hdi]; exact HX1.out)
            have HVP := Lib.hid hvp
            have HVI := Lib.hid hvi
            have HBP := Lib.hid hbp
            have HBI := Lib.hid hbi
            clear hx1 hx2 hvp hvi hbp hbi hdp hdi hu0 hu1 hu2 hf0 hf1 hf2
            go_upto_region 13 with fail
            go_region_law (first | (rw [if_pos (by simp [Region.wanted])]; go_wp2_with (go_at_call 35; (with_reducible refine (specSemiJoin_any HBP.out (VD.toExt HVP.out ?_) HBI.out (VD.toExt HVI.out ?_)).mono ?_); (focus (exact (by repeat (with_reducible (first | exact refl_ext _ | exact alloc_ext _ _ | exact drew_ext _ | assumption | refine trans_ext ?_ (drew_ext _) | refine trans_ext ?_ (alloc_ext _ _) | refine trans_ext ?_ (by assumption)))))); (focus (exact (by repeat (with_reducible (first | exact refl_ext _ | exact alloc_ext _ _ | exact drew_ext _ | assumption | refine trans_ext ?_ (drew_ext _) | refine trans_ext ?_ (alloc_ext _ _) | refine trans_ext ?_ (by assumption)))))); rw [HX1.out]; rintro e w5 ⟨u0, u1, u2, F5, rfl, hx5, hS5, hN5, hF5⟩; rw [Option.getD_some] at hS5; obtain ⟨A5, a5, B5, b5, rfl, rfl, rfl⟩ := sVR_form hS5; have hxr5 : ∃ y, w5 = ext wr2 y := trans_ext (by repeat (with_reducible (first | exact refl_ext _ | exact alloc_ext _ _ | exact drew_ext _ | assumption | refine trans_ext ?_ (drew_ext _) | refine trans_ext ?_ (alloc_ext _ _) | refine trans_ext ?_ (by assumption)))) hx5; obtain ⟨⟨⟨y0, hu0⟩, hf0⟩, ⟨⟨y1, hu1⟩, hf1⟩, ⟨⟨y2, hu2⟩, hf2⟩, hg5⟩ := vr_cell (HS.out.toExt hxr5) HLD.out (k := pn) (by omega) ; skip)))
            all_goals
              obtain ⟨F9, hS9, hC9, hN9, hF9⟩ := semi_put (W := W) (p := pn) HS.out HLD.out HN.out (by omega) hxr5 hS5 hN5 (fun b hb => Nat.le_trans (size_of_ext (trans_ext (by repeat (with_reducible (first | exact refl_ext _ | exact alloc_ext _ _ | exact drew_ext _ | assumption | refine trans_ext ?_ (drew_ext _) | refine trans_ext ?_ (alloc_ext _ _) | refine trans_ext ?_ (by assumption)))) (refl_ext _))) (hF5 b hb)) HF.out hzW
              rw [← HX2.out] at hS9
              have HS9 := Lib.hid hS9
              have HC9 := Lib.hid (HC.out.trans hC9 (fun x hx => .inl hx))
              have HN9 := Lib.hid hN9
              have HF9 := Lib.hid hF9
              clear hS9 hC9 hN9 hF9 hS5 hN5 hF5
              go_wp2_with fail
              exact ⟨⟨k + 1, F9, by go_num, by omega, Lib.hid (by rw [HUPD.out]; exact HS9.out), HN9, HF9, HC9⟩, by simp [intOf] <;> omega⟩
          · obtain ⟨m0, rfl⟩ : ∃ m0, n = m0 + 1 := ⟨n - 1, by omega⟩
            obtain rfl : k = m0 := by omega
            have hroot : ps.getD (o.getD k 0).toNat 0 = -1 := HRL.out
            obtain ⟨hi0, hi1⟩ := HUI.out (o.getD k 0) (mem_getD (by rw [HLO.out]; omega))
            obtain ⟨i, hi⟩ : ∃ i : Nat, o.getD k 0 = (i : Int) := ⟨(o.getD k 0).toNat, by omega⟩
            have hoi : o[k]'(by rw [HLO.out]; omega) = (i : Int) := by rw [← hi, getDl _ _ (show k < o.length by rw [HLO.out]; omega)]
            rw [hi, Int.toNat_natCast] at hroot
            have hup := upD_no (ds := D0) (ps := ps) (o := o) (k := k) (by rw [HLO.out]; omega) hoi (by rw [hroot]; omega)
            have hS0 := HS.out
            rw [← hup] at hS0
            have HDZ1 := Lib.hid (show dnD ps o 0 (upD ps o (k + 1) D0) = fullD d q (prs ps o) by rw [← HDZ.out, HLO.out])
            have HOK1 := Lib.hid (upD_ok HOK0.out (by rw [HPN.out, HLD0.out]) HPI.out HUI.out (k + 1) (by rw [HLO.out]; omega))
            have HLD1 := Lib.hid (show (upD ps o (k + 1) D0).length = k + 1 by rw [upD_len, HLD0.out])
            obtain ⟨D1, hD1⟩ : ∃ D, upD ps o (k + 1) D0 = D := ⟨_, rfl⟩
            rw [hD1] at hS0 HDZ1 HOK1 HLD1
            have HS1 := Lib.hid (show SV 69 3 sVR wr (.slice (some ⟨ga, 0, none⟩) (k + 1) c8) (dnD ps o k D1) F by
              rw [dnD_no (k := k) (by rw [HLO.out]; omega) hoi (by rw [hroot]; omega), dnD_end (by rw [HLO.out]; omega)]
              exact hS0)
            have HC1 := HC
            have hnk : ¬ ((k : Int) < ((k + 1 : Nat) : Int) - 1) := by omega
            obtain ⟨K, rfl⟩ : ∃ K, K = k := ⟨_, rfl⟩
            clear hS0 hD1 HS HC hup hroot hi hi0 hi1 hoi HRL
            go_wp2_with fail
            go_loopw [13] (fun i wr => ∃ (m : Nat) (F : List Nat), i = .int .i64 ((m : Int) - 1) ∧ m ≤ K ∧ Hid (SV 69 3 sVR wr (.slice (some ⟨ga, 0, none⟩) (K + 1) c8) (dnD ps o m D1) F) ∧ Hid F.Nodup ∧ Hid (∀ b ∈ F, W.heap.size ≤ b) ∧ Hid (Chg [ga] w9 wr)) (fun i _ => (intOf i + 1).toNat)
            case atStart => exact ⟨K, F, by (have e9 : (K : Int) - 1 = ((K + 1 : Nat) : Int) - 2 := by omega); rw [e9]; go_num, Nat.le_refl _, HS1, HN, HF, HC1⟩
            case round =>
              obtain ⟨m, F, rfl, hm, HS, HN, HF, HC⟩ := hrel
              have hyr : ∃ y, wr = ext W y := HC.out.isExt HX9.out (by simp; exact hgaW)
              have hzr := HC.out.size
              have hzW := size_of_ext hyr
              obtain ⟨lt, r0, ft⟩ := bx1 (TW.toExt hyr)
              have HSOr := Lib.hid (HSO.out.chg HC.out (fun b hb h => HFO.out b hb (List.mem_singleton.1 h)))
              by_cases hlt : 0 < m
              · obtain ⟨k, rfl⟩ : ∃ k, m = k + 1 := ⟨m - 1, by omega⟩
                rw [show ((k + 1 : Nat) : Int) - 1 = (k : Int) by omega]
                have hkn : k < K := by omega
                obtain ⟨n, hnK⟩ : ∃ n, K + 1 = n := ⟨_, rfl⟩
                rw [hnK] at HS HLD1 HPN HLO ⊢
                have hkn1 : k < n := by omega
                have cok := cells_of HSOr.out (k := k) (by rw [HLO.out]; omega)
                obtain ⟨hi0, hi1⟩ := HUI.out (o.getD (k) 0) (mem_getD (by rw [HLO.out]; omega))
                rw [HPN.out] at hi1
                obtain ⟨i, hi⟩ : ∃ i : Nat, o.getD (k) 0 = (i : Int) := ⟨(o.getD (k) 0).toNat, by omega⟩
                rw [hi] at cok hi0 hi1
                have hil : i < n := by omega
                have hips : i < ps.length := by rw [HPN.out]; exact hil
                have hoi : o[k]'(by rw [HLO.out]; omega) = (i : Int) := by rw [← hi, getDl _ _ (show k < o.length by rw [HLO.out]; omega)]
                obtain ⟨hbt, cps⟩ := (HPT.out.toExt (trans_ext xW hyr)).atJ (k := i) (by rw [HPN.out]; exact hil)
                obtain ⟨p, hp⟩ : ∃ p, ps.getD i 0 = p := ⟨_, rfl⟩
                rw [hp] at cps
                have hgor : go < wr.heap.size := by omega
                have hi9 := hi
                clear hi hi0
                have hp0 : 0 ≤ p := by
                  have h9 := HPO.out (o.getD k 0) (mem_takeD (by omega) (by rw [HLO.out]; omega))
                  rw [hi9, Int.toNat_natCast, hp] at h9
                  exact h9
                obtain ⟨pn, hpn⟩ : ∃ pn : Nat, p = (pn : Int) := ⟨p.toNat, by omega⟩
                subst hpn
                have hpl : pn < n := by have h9 := HPI.out (ps.getD i 0) (mem_getD (by rw [HPN.out]; exact hil)); rw [hp, HPN.out] at h9; omega
                go_upto_region 17 with fail
                refine wp_region_ext (by kernel_rfl) (by kernel_rfl) ?_
                repeat (go_big_quiet_step (fail))
                refine wpQuiet_nil ?_
                rintro _ ⟨zz, rfl⟩
                have hz2 : ∃ y, ext wr zz = ext wr y := ⟨zz, rfl⟩
                obtain ⟨wr2, hwr2⟩ : ∃ W, ext wr zz = W := ⟨_, rfl⟩
                rw [hwr2] at hz2 ⊢
                have HS := Lib.hid (HS.out.toExt hz2)
                have HC := Lib.hid (HC.out.trans0 hz2)
                have hzW : W.heap.size ≤ wr2.heap.size := Nat.le_trans hzW (size_of_ext hz2)
                have cok := cells_of (HSOr.out.toExt hz2) (k := k) (by rw [HLO.out]; omega)
                rw [hi9] at cok
                have hgor : go < wr2.heap.size := Nat.lt_of_lt_of_le hgor (size_of_ext hz2)
                clear hwr2 lt r0 ft hbt cps
                have HUPD := Lib.hid (dnD_yes (ds := D1) (by rw [HLO.out]; omega) hoi hp)
                have HOK := Lib.hid (dnD_ok HOK1.out (by rw [HPN.out, HLD1.out]) HPI.out HUI.out (n - (k + 1)) (k + 1) (by rw [HLO.out]; omega))
                have HLD := Lib.hid (show (dnD ps o (k + 1) D1).length = n by rw [dnD_len, HLD1.out])
                clear hp hoi hi9
                obtain ⟨x, hx1, hx2, hbp, hbi⟩ := semi_at HOK.out (p := i) (i := pn) (by rw [HLD.out]; omega) (by rw [HLD.out]; omega)
                have HX1 := Lib.hid hx1
                have HX2 := Lib.hid hx2
                obtain ⟨Ap, ap, Bp, bp, cp0, cp1, cp2, hvp⟩ := vr_at HS.out HN.out (k := i) (by rw [HLD.out]; omega)
                obtain ⟨Ai, ai, Bi, bi, ci0, ci1, ci2, hvi⟩ := vr_at HS.out HN.out (k := pn) (by rw [HLD.out]; omega)
                obtain ⟨⟨⟨_, hu0⟩, hf0⟩, ⟨⟨_, hu1⟩, hf1⟩, ⟨⟨_, hu2⟩, hf2⟩, hgr⟩ := vr_cell HS.out HLD.out (k := i) (by omega)
                obtain ⟨dp, hdp⟩ : ∃ x, (dnD ps o (k + 1) D1).getD i zV = x := ⟨_, rfl⟩
                obtain ⟨di, hdi⟩ : ∃ x, (dnD ps o (k + 1) D1).getD pn zV = x := ⟨_, rfl⟩
                rw [hdp] at cp0 cp1 cp2 hvp hbp
                rw [hdi] at ci0 ci1 ci2 hvi hbi
                have HX1 := Lib.hid (show semiR dp di = some x by rw [← hdp, ← hdi]; exact HX1.out)
                have HVP := Lib.hid hvp
                have HVI := Lib.hid hvi
                have HBP := Lib.hid hbp
                have HBI := Lib.hid hbi
                clear hx1 hx2 hvp hvi hbp hbi hdp hdi hu0 hu1 hu2 hf0 hf1 hf2
                go_upto_region 18 with fail
                go_region_law (first | (rw [if_pos (by simp [Region.wanted])]; go_wp2_with (go_at_call 35; (with_reducible refine (specSemiJoin_any HBP.out (VD.toExt HVP.out ?_) HBI.out (VD.toExt HVI.out ?_)).mono ?_); (focus (exact (by repeat (with_reducible (first | exact refl_ext _ | exact alloc_ext _ _ | exact drew_ext _ | assumption | refine trans_ext ?_ (drew_ext _) | refine trans_ext ?_ (alloc_ext _ _) | refine trans_ext ?_ (by assumption)))))); (focus (exact (by repeat (with_reducible (first | exact refl_ext _ | exact alloc_ext _ _ | exact drew_ext _ | assumption | refine trans_ext ?_ (drew_ext _) | refine trans_ext ?_ (alloc_ext _ _) | refine trans_ext ?_ (by assumption)))))); rw [HX1.out]; rintro e w5 ⟨u0, u1, u2, F5, rfl, hx5, hS5, hN5, hF5⟩; rw [Option.getD_some] at hS5; obtain ⟨A5, a5, B5, b5, rfl, rfl, rfl⟩ := sVR_form hS5; have hxr5 : ∃ y, w5 = ext wr2 y := trans_ext (by repeat (with_reducible (first | exact refl_ext _ | exact alloc_ext _ _ | exact drew_ext _ | assumption | refine trans_ext ?_ (drew_ext _) | refine trans_ext ?_ (alloc_ext _ _) | refine trans_ext ?_ (by assumption)))) hx5; obtain ⟨⟨⟨y0, hu0⟩, hf0⟩, ⟨⟨y1, hu1⟩, hf1⟩, ⟨⟨y2, hu2⟩, hf2⟩, hg5⟩ := vr_cell (HS.out.toExt hxr5) HLD.out (k := i) (by omega) ; have cok5 := cell_x cok hgor hxr5; have hgo5 := lt_x hgor hxr5)))
                all_goals
                  obtain ⟨F9, hS9, hC9, hN9, hF9⟩ := semi_put (W := W) (p := i) HS.out HLD.out HN.out (by omega) hxr5 hS5 hN5 (fun b hb => Nat.le_trans (size_of_ext (trans_ext (by repeat (with_reducible (first | exact refl_ext _ | exact alloc_ext _ _ | exact drew_ext _ | assumption | refine trans_ext ?_ (drew_ext _) | refine trans_ext ?_ (alloc_ext _ _) | refine trans_ext ?_ (by assumption)))) (refl_ext _))) (hF5 b hb)) HF.out hzW
                  rw [← HX2.out] at hS9
                  have HS9 := Lib.hid hS9
                  have HC9 := Lib.hid (HC.out.trans hC9 (fun x hx => .inl hx))
                  have HN9 := Lib.hid hN9
                  have HF9 := Lib.hid hF9
                  clear hS9 hC9 hN9 hF9 hS5 hN5 hF5
                  go_wp2_with fail
                  exact ⟨⟨k, F9, by go_num, by omega, Lib.hid (by rw [HUPD.out]; exact HS9.out), HN9, HF9, HC9⟩, by simp [intOf] <;> omega⟩
              · obtain rfl : m = 0 := by omega
                have HS8 := Lib.hid (show SV 69 3 sVR wr (.slice (some ⟨ga, 0, none⟩) (K + 1) c8) (fullD d q (prs ps o)) F by rw [← HDZ1.out]; exact HS.out)
                go_wp2_with fail
                refine bodyPost_ret (v := .tuple #[.slice (some ⟨ga, 0, none⟩) (K + 1) c8, .bool true]) (by simp [results, Tryz.results8, go_sem, *]) rfl ?_
                rw [HZ.out, HOE.out]
                exact ⟨_, F, rfl, trans_ext xW hyr, HS8.out, HN.out, fun b hb => by have := HF.out b hb; omega⟩
end Go.Proofs.YtfigcfajkilhiaaGreat
