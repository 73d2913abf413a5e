/- Contracts of functions that the statement reaches. -/
import Derived.Test.YtfigcfajkilhiaaGreatF03
import Derived.Test.YtfigcfajkilhiaaGreatF27
namespace Go.Proofs.YtfigcfajkilhiaaGreat
open Go.RowKit
abbrev vVRs : VE (List VRd) := vSl 3 vVR
abbrev sVRs : SE (List VRd) := sSl 69 3 sVR
theorem sVRs_v {w : World} (c : List Value) (d : List VRd) (F : List Nat) (h : sVRs w c d F) : vVRs w c d := sSl_v sVR_v c d F h
theorem sVRs_form {w : World} {v : Value} {d : List VRd} {F : List Nat} (h : sVRs w [v] d F) : ∃ A c, v = .slice A d.length c := by
  obtain ⟨v', e, hS⟩ := h
  injection e with e
  subst e
  obtain ⟨A, c, e, _, _⟩ := hS.form
  exact ⟨A, c, e⟩
def lVs (x : VRd) : Nat := x.1.length + 1 + (x.2.2.map fun y => y.length).sum
def BVRs (d : List VRd) : Prop := d.length ≤ 4 ∧ ∀ x ∈ d, BVR x ∧ lVs x ≤ 30000
theorem BVRs.len {d : List VRd} (h : BVRs d) : d.length ≤ 1000000000 := Nat.le_trans h.1 (by omega)
theorem lVs_tot : ∀ {d : List VRd}, (∀ x ∈ d, lVs x ≤ 30000) → (d.map lVs).sum ≤ 30000 * d.length
  | [], _ => by simp
  | x :: d, h => by
    have h1 := h x (by simp)
    have h2 := lVs_tot (d := d) fun y hy => h y (by simp [hy])
    rw [List.map_cons, List.sum_cons, List.length_cons]
    omega
theorem BVRs.sum {d : List VRd} (h : BVRs d) : (d.map lVs).sum ≤ 120000 := by
  have := lVs_tot fun x hx => (h.2 x hx).2
  have := h.1
  omega
theorem vrok_bs {x : VRd} (h : VrOk x) : BVR x ∧ lVs x ≤ 30000 := by
  have h1 := h.len
  have h2 := h.cnt
  have h3 := sum_len (m := 5) (l := x.2.2) (fun y hy => by rw [h.rl y hy]; exact h.len)
  refine ⟨vrok_bd h, ?_⟩
  unfold lVs
  have e : (x.2.2.map fun y => y.length) = x.2.2.map List.length := rfl
  rw [e]
  omega
theorem full_bd (d : Dbd) (q : Qd) (ps : List Int) : BVRs ((fullR d q ps).getD []) := by
  unfold fullR
  split
  · rename_i h
    have hjt : jtB q.1.toNat q.2.1 ps = true := by have h := h.2; unfold ivjB at h; rw [Bool.and_eq_true] at h; exact h.2
    obtain ⟨r, hY⟩ := yan h.1 hjt
    have hPI : ∀ x ∈ ps, x < (ps.length : Int) := fun x hx => by
      have htb : treeB ps = true := by unfold jtB at hjt; rw [Bool.and_eq_true, Bool.and_eq_true] at hjt; exact hjt.1.2
      have := (treeB_in htb x hx).2
      omega
    have hl : (fullD d q (prs ps (upL ps))).length = q.2.1.length := by unfold fullD; rw [runD_len, List.length_map]
    have hok : OkDs (fullD d q (prs ps (upL ps))) := by
      rw [← full_steps]
      exact dnD_ok (upD_ok (OkDs.start d q.2.1) (by rw [List.length_map]; exact hY.n) hPI hY.ord.ui _ (Nat.le_refl _)) (by rw [upD_len, List.length_map]; exact hY.n) hPI hY.ord.ui (upL ps).length 0 (by omega)
    rw [Option.getD_some]
    exact ⟨by rw [hl]; exact hY.n4, fun x hx => vrok_bs (hok x hx)⟩
  · exact ⟨by simp, by simp⟩
theorem RV.atVR {w : World} {A : Option Addr} {d : List VRd} {k : Nat} (h : RV 3 vVR w A d) (hk : k < d.length) : ∃ b o A' a' B' b', A = some ⟨b, o, none⟩ ∧ b < w.heap.size ∧ w.cell? ⟨b, o + k * 3, none⟩ = some (.slice A' d[k].1.length a') ∧ w.cell? ⟨b, o + k * 3 + 1, none⟩ = some (.int .i64 d[k].2.1) ∧ w.cell? ⟨b, o + k * 3 + 2, none⟩ = some (.slice B' d[k].2.2.length b') ∧ vVR w [.slice A' d[k].1.length a', .int .i64 d[k].2.1, .slice B' d[k].2.2.length b'] d[k] := by
  obtain ⟨b, o, h1, h2, c, hc, hr, hv⟩ := h.get hk
  obtain ⟨A', a', B', b', rfl⟩ := vVR_shape hv
  exact ⟨b, o, A', a', B', b', h1, h2, by simpa using hr 0 (by simp), by simpa using hr 1 (by simp), by simpa using hr 2 (by simp), hv⟩
theorem vVRs_get {w : World} {A : Option Addr} {n c : Nat} {d : List VRd} (h : vVRs w [.slice A n c] d) : n = d.length ∧ RV 3 vVR w A d := by
  obtain ⟨A', c', e, h⟩ := h
  injection e with e
  injection e with e1 e2 e3
  subst e1
  exact ⟨e2, h⟩
set_option maxHeartbeats 1000000 in
theorem eqVarRelationS_d {A A' : Option Addr} {c c' : Nat} {d d' : List VRd} {w : World} (hb : BVRs d) (h : vVRs w [.slice A d.length c] d) (hb' : BVRs d') (h' : vVRs w [.slice A' d'.length c'] d') :
    Calls Tryz.prog 13 #[.slice A d.length c, .slice A' d'.length c'] w fun e w' => e = .returned (.bool (decide (d = d'))) ∧ ∃ y, w' = ext w y := by
  have h1 := (vVRs_get h).2
  have h2 := (vVRs_get h').2
  have hx := hb.len
  have hy := hb'.len
  have Hxl := Lib.hid hb.2
  have Hyl := Lib.hid hb'.2
  clear hb hb' h h'
  by_cases hl : d.length = d'.length
  · have hn : ((d.length : Int) != (d'.length : Int)) = false := by simp [hl]
    have hl2 : d'.length ≤ d.length := by omega
    have hl3 : d.length ≤ d'.length := by omega
    have HL := Lib.hid hl
    clear hl
    go_enter Tryz.func13, Tryz.ntmps13
    go_wp2
    go_loopw [5] (fun i wr => ∃ k : Nat, i = .int .i64 k ∧ k ≤ d.length ∧ d.take k = d'.take k ∧ ∃ y, wr = ext w y) (fun i _ => d.length - (intOf i).toNat)
    case atStart => exact ⟨0, rfl, by omega, by simp, refl_ext w⟩
    case round =>
      obtain ⟨k, rfl, hk, ht, hw⟩ := hrel
      have Ht := Lib.hid ht
      clear ht
      by_cases hlt : k < d.length
      · have hlt2 : k < d'.length := by omega
        obtain ⟨b, o, A1, c1, B1, e1, rfl, hb, hc, hd, hd2, hv⟩ := (h1.toExt hw).atVR hlt
        obtain ⟨b', o', A2, c2, B2, e2, rfl, hb', hc', hd', hd2', hv'⟩ := (h2.toExt hw).atVR hlt2
        have q1 := (Hxl.out d[k] (List.getElem_mem hlt)).1
        have q2 := (Hyl.out d'[k] (List.getElem_mem hlt2)).1
        by_cases he : d[k] = d'[k]
        · have He := Lib.hid he
          have Hd := Lib.hid (show decide (d[k] = d'[k]) = true by simp [he])
          clear he
          go_wp2
          refine wp_region_ext (by kernel_rfl) (by kernel_rfl) ?_
          repeat (go_big_quiet_step ((go_at_call 43; exact quietEb (eqVarRelation_d q1 (VMono.ext hv) q2 (VMono.ext hv')) Hd.out)))
          refine wpQuiet_nil ?_
          rintro _ ⟨z, rfl⟩
          go_wp2
          exact ⟨⟨k + 1, by go_num, by omega, take_snoc_eq _ _ Ht.out He.out, (by refine x'z ?_; repeat (with_reducible (first | exact x'a _ _ | exact x'b _ | exact x'c (by assumption) | refine x'd ?_ (by assumption) | refine x'e ?_ _ | refine x'f ?_ _ | refine x'g ?_ | refine x'h ?_ ?_ _ | refine x'i ?_ _ | refine x'j ?_ | refine x'k ?_ _ | refine x'l ?_ _ _ | refine x'm ?_ | assumption | (refine x'n ?_; omega) | omega)))⟩, by simp [intOf]; omega⟩
        · have He := Lib.hid he
          have Hd := Lib.hid (show decide (d[k] = d'[k]) = false from decide_eq_false he)
          clear he
          go_wp2
          refine wp_region_ext (by kernel_rfl) (by kernel_rfl) ?_
          repeat (go_big_quiet_step ((go_at_call 43; exact quietEb (eqVarRelation_d q1 (VMono.ext hv) q2 (VMono.ext hv')) Hd.out)))
          refine wpQuiet_nil ?_
          rintro _ ⟨z, rfl⟩
          go_wp2
          go_ret
          exact ⟨by rw [decide_eq_false (ne_of_at hlt hlt2 He.out)]; rfl, (by refine x'z ?_; repeat (with_reducible (first | exact x'a _ _ | exact x'b _ | exact x'c (by assumption) | refine x'd ?_ (by assumption) | refine x'e ?_ _ | refine x'f ?_ _ | refine x'g ?_ | refine x'h ?_ ?_ _ | refine x'i ?_ _ | refine x'j ?_ | refine x'k ?_ _ | refine x'l ?_ _ _ | refine x'm ?_ | assumption | (refine x'n ?_; omega) | omega)))⟩
      · go_wp2
        go_ret
        exact ⟨by rw [decide_eq_true (all_eq HL.out hlt Ht.out)]; rfl, hw⟩
  · have hn : ((d.length : Int) != (d'.length : Int)) = true := by simp; omega
    go_enter Tryz.func13, Tryz.ntmps13
    go_wp2
    go_ret
    exact ⟨by rw [decide_eq_false (by rintro rfl; exact hl rfl)]; rfl, refl_ext w⟩
def mkVs (k : Int) (x : VRd) : VRd × Int := ((marks k x.1.length, k + x.1.length, (mkN mkI (k + x.1.length + 1) x.2.2).1), (mkN mkI (k + x.1.length + 1) x.2.2).2)
theorem mkVs_sum (k : Int) (xs : List VRd) : (mkN mkVs k xs).2 = k + ((xs.map lVs).sum : Nat) := mkN_sum (fun k x => by simp only [mkVs, mkI_sum, lVs]; omega) xs k
theorem mkVs_bd {k : Int} {xs : List VRd} (h0 : 0 ≤ k) (hs : k + ((xs.map lVs).sum : Nat) ≤ 85000000000) (i : Nat) : 0 ≤ (mkN mkVs k (xs.take i)).2 ∧ (mkN mkVs k (xs.take i)).2 ≤ 85000000000 := by
  rw [mkVs_sum]
  have := sum_take_le (c := lVs) xs i
  omega
set_option maxHeartbeats 8000000 in
theorem markVarRelationS_d {v : Value} {xs : List VRd} {F : List Nat} {k0 : Int} {w : World} (hb : BVRs xs) (h : sVRs w [v] xs F) (hN : F.Nodup) (h0 : 0 ≤ k0) (hk0 : k0 ≤ 80000000000) :
    Calls Tryz.prog 20 #[v, .int .i64 k0] w fun e w' => ∃ k', e = .returned (.int .i64 k') ∧ Hid ((mkN mkVs k0 xs).2 = k') ∧ k0 ≤ k' ∧ k' ≤ k0 + 4000000 ∧ sVRs w' [v] (mkN mkVs k0 xs).1 F ∧ Chg F w w' := by
  have hS : SV 69 3 sVR w v xs F := by
    obtain ⟨v', e, hS⟩ := h
    injection e with e
    subst e
    exact hS
  clear h
  have hx := hb.len
  have Hxl := Lib.hid hb.2
  have HN := Lib.hid hN
  have hsum := hb.sum
  have hs := mkVs_sum k0 xs
  have HR := Lib.hid (show k0 ≤ (mkN mkVs k0 xs).2 ∧ (mkN mkVs k0 xs).2 ≤ k0 + 4000000 by omega)
  have HB := Lib.hid (mkVs_bd (xs := xs) h0 (by omega))
  clear hb hN hk0 hs hsum
  obtain ⟨A, cap, rfl, _, _⟩ := hS.form
  go_enter Tryz.func20, Tryz.ntmps20
  go_wp2
  go_loopw [1, 5] (fun m i wr => ∃ k : Nat, i = .int .i64 k ∧ m = .int .i64 (mkN mkVs k0 (xs.take k)).2 ∧ k ≤ xs.length ∧ SV 69 3 sVR wr (.slice A xs.length cap) ((mkN mkVs k0 (xs.take k)).1 ++ xs.drop k) F ∧ Chg F w wr) (fun _ i _ => xs.length - (intOf i).toNat)
  case atStart => exact ⟨0, rfl, by simp [mkN], by omega, by simpa [mkN] using hS, Chg.refl F w⟩
  case round =>
    obtain ⟨k, rfl, rfl, hk, hSk, hC⟩ := hrel
    have hlen : ((mkN mkVs k0 (xs.take k)).1 ++ xs.drop k).length = xs.length := by simp; omega
    by_cases hlt : k < xs.length
    · obtain ⟨g, cap', hv, hgF, _, _⟩ := hSk.block (by intro e; rw [e] at hlen; simp at hlen; omega)
      rw [hlen] at hv
      injection hv with hA _ hc
      subst hA hc
      have hle := (Hxl.out xs[k] (List.getElem_mem hlt)).1
      obtain ⟨b1, b2⟩ := HB.out k
      obtain ⟨b3, b4⟩ := HB.out (k + 1)
      have hst := mk_set (mk := mkVs) (k := k0) hlt
      have HT := Lib.hid (mkN_take (mk := mkVs) (k := k0) hlt)
      obtain ⟨m, hm⟩ : ∃ m, (mkN mkVs k0 (xs.take k)).2 = m := ⟨_, rfl⟩
      obtain ⟨L, hL⟩ : ∃ L, (mkN mkVs k0 (xs.take k)).1 ++ xs.drop k = L := ⟨_, rfl⟩
      rw [hm] at b1 b2 hst ⊢
      have HM := Lib.hid hm
      obtain ⟨x, hx⟩ : ∃ x, xs[k] = x := ⟨_, rfl⟩
      have HG : Hid (∀ h : k < L.length, L[k] = x) := Lib.hid (by subst hL; intro h; rw [← hx]; exact mk_get hlt h)
      rw [hL] at hst hSk hlen
      rw [hx] at hle hst
      have HX := Lib.hid hx
      have HS := Lib.hid hst
      have HL := Lib.hid hlen
      have HLE := Lib.hid hle.2.2
      have hx1 : x.1.length ≤ 1048576 := hle.1
      have hx1' : x.1.length ≤ 1000000000 := by omega
      have HK2 : Hid (k < L.length) := Lib.hid (by rw [HL.out]; exact hlt)
      obtain ⟨g2, cap2, c2, Fk, hv2, hg2, hgF2, hgk2, hsub2, hNk2, hcl2, hcell2, hfz2, hE2, hup2, _⟩ := hSk.at HN.out HK2.out
      obtain rfl := sl_blk hv2
      rw [HG.out HK2.out] at hE2
      obtain ⟨A0, a0, A1, a1, rfl⟩ := vVR_shape (sVR_v _ _ _ hE2)
      have hc20 := hcell2 0 (by simp)
      simp only [Nat.add_zero, List.getElem_cons_zero] at hc20
      obtain ⟨F1, F2, rfl, hA, hR⟩ := sVR_get hE2
      obtain ⟨N1, N2, N3⟩ := List.nodup_append.1 hNk2
      have HN3 := Lib.hid N3
      have Hup := Lib.hid hup2
      have HgF := Lib.hid hgF
      have Hsub2 := Lib.hid hsub2
      clear hm hL hst hlen hx hle hv2 hcell2 hup2 hsub2 hcl2 hE2 hNk2 N3 hSk hgF2 hgk2
      go_upto_region 5 with (go_at_call 49; refine (markIntS_any hx1' hA b1 (by omega)).mono ?_; rintro e w1 ⟨rfl, hA1, hC1⟩)
      have hE3 : sVR w1 [.slice A0 x.1.length a0, .int .i64 x.2.1, .slice A1 x.2.2.length a1] (marks m x.1.length, x.2) (F1 ++ F2) := sP_mk (E0 := sSl 3 1 sI) (E1 := sRel) (d := (marks m x.1.length, x.2)) ⟨_, rfl, hA1⟩ (OD.chg hR hC1 (fun y hy hy2 => HN3.out y hy2 y hy rfl))
      have hS3 := Hup.out w1 (marks m x.1.length, x.2) hE3 (hC1.mono (fun y hy => .inl (List.mem_append_left _ hy)))
      have HC1 := Lib.hid hC1
      have Hsub1 := Lib.hid (fun y (hy : y ∈ F1) => Hsub2.out y (List.mem_append_left _ hy))
      obtain ⟨g3, cap3, c3, Fk3, hv3, hg3, hgF3, hgk3, hsub3, hNk3, hcl3, hcell3, hfz3, hE3', _, hup3⟩ := hS3.at HN.out (k := k) (by simpa using HK2.out)
      obtain rfl := sl_blk hv3
      rw [List.getElem_set_self] at hE3'
      obtain ⟨A2, a2, A3, a3, rfl⟩ := vVR_shape (sVR_v _ _ _ hE3')
      have hc31 := hcell3 1 (by simp)
      simp only [List.getElem_cons_zero, List.getElem_cons_succ] at hc31
      have HE3 := Lib.hid hE3'
      have Hup3 := Lib.hid hup3
      clear hv3 hcell3 hup3 hsub3 hcl3 hS3 hE3 hE3' Hup hA1 hC1 hA hR hfz2 hc20 hgF3 hgk3 hNk3 Hsub2
      go_upto_region 7 with fail
      refine wp_name ?_
      intro w4 hw4
      obtain ⟨G1, G2, hG, hA4, hR4⟩ := sVR_get HE3.out
      have hI4 : sII w1 [.slice A3 x.2.2.length a3] x.2.2 G2 := by
        obtain ⟨_, _, _, _, h⟩ := sRel_form hR4
        exact h
      obtain ⟨hS4, hC4⟩ := Hup3.out 1 (.int .i64 (m + x.1.length)) (marks m x.1.length, m + x.1.length, x.2.2) (by omega) (show sVR w1 [.slice A2 (marks m x.1.length).length a2, .int .i64 (m + x.1.length), .slice A3 x.2.2.length a3] (marks m x.1.length, m + x.1.length, x.2.2) Fk3 from by
        rw [hG]
        exact sP_mk (E0 := sSl 3 1 sI) (E1 := sRel) (d := (marks m x.1.length, m + x.1.length, x.2.2)) ⟨_, rfl, hA4⟩ (sRel_mk hI4))
      rw [← hw4.out] at hS4 hC4
      obtain ⟨g4, cap4, c4, Fk4, hv4, hg4, hgF4, hgk4, hsub4, hNk4, hcl4, hcell4, hfz4, hE4, hup4, _⟩ := hS4.at HN.out (k := k) (by simpa using HK2.out)
      obtain rfl := sl_blk hv4
      rw [List.getElem_set_self] at hE4
      obtain ⟨A5, a5, A6, a6, rfl⟩ := vVR_shape (sVR_v _ _ _ hE4)
      have hc42 := hcell4 2 (by simp)
      simp only [List.getElem_cons_zero, List.getElem_cons_succ] at hc42
      obtain ⟨H1, H2, rfl, hA5, hR5⟩ := sVR_get hE4
      have hI5 : sII w4 [.slice A6 x.2.2.length a6] x.2.2 H2 := by
        obtain ⟨_, _, _, _, h⟩ := sRel_form hR5
        exact h
      obtain ⟨M1, M2, M3⟩ := List.nodup_append.1 hNk4
      have Hup4 := Lib.hid hup4
      have Hsub4 := Lib.hid (fun y (hy : y ∈ H2) => hsub4 y (List.mem_append_right _ hy))
      have HC4 := Lib.hid hC4
      have HM3 := Lib.hid M3
      have HA5 := Lib.hid hA5
      clear hv4 hcell4 hup4 hsub4 hcl4 hS4 hC4 hw4 hc31 Hup3 hE4 hfz3 hA4 hR4 hI4 HE3 hfz4 hNk4 M3 hR5 hA5 hgF4 hgk4
      go_wp2_with (go_at_call 50; refine (markIntSS_d HLE.out hI5 M2 (by omega) (by omega)).mono ?_; rintro e w5 ⟨k5, rfl, HK5, kl5, ku5, hS5, hC5⟩)
      have h5 := Hup4.out w5 (marks m x.1.length, m + x.1.length, (mkN mkI (m + x.1.length + 1) x.2.2).1) (sP_mk (E0 := sSl 3 1 sI) (E1 := sRel) (d := (marks m x.1.length, m + x.1.length, (mkN mkI (m + x.1.length + 1) x.2.2).1)) ⟨_, rfl, HA5.out.chg hC5 (fun y hy hy2 => HM3.out y hy y hy2 rfl)⟩ (sRel_mk hS5)) (hC5.mono (fun y hy => .inl (List.mem_append_right _ hy)))
      rw [List.set_set, List.set_set] at h5
      have e3 : L.set k (marks m x.1.length, m + x.1.length, (mkN mkI (m + x.1.length + 1) x.2.2).1) = (mkN mkVs k0 (xs.take (k + 1))).1 ++ xs.drop (k + 1) := HS.out
      have e4 : (mkN mkVs k0 (xs.take (k + 1))).2 = k5 := by rw [HT.out, HM.out, HX.out]; exact HK5.out
      exact ⟨⟨k + 1, by go_num, by rw [e4], by omega, by rw [← e3]; exact h5, ((hC.trans HC1.out (fun y hy => .inl (Hsub1.out y hy))).trans HC4.out (fun y hy => .inl (by rw [List.mem_singleton.1 hy]; exact HgF.out))).trans hC5 (fun y hy => .inl (Hsub4.out y hy))⟩, by simp [intOf]; omega⟩
    · go_wp2
      go_ret
      have e : k = xs.length := by omega
      subst e
      rw [List.take_length] at hSk ⊢
      exact ⟨_, rfl, Lib.hid rfl, HR.out.1, HR.out.2, ⟨_, rfl, by rwa [List.drop_length, List.append_nil] at hSk⟩, hC⟩
set_option maxHeartbeats 4000000 in
theorem heldVarRelationS_d {A : Option Addr} {c n : Nat} {xs : List VRd} {k0 k' : Int} {w : World} (hb : BVRs xs) (hk : Hid ((mkN mkVs k0 xs).2 = k')) (h : vVRs w [.slice A n c] (mkN mkVs k0 xs).1) (h0 : 0 ≤ k0) (hk0 : k0 ≤ 80000000000) :
    Calls Tryz.prog 21 #[.slice A n c, .int .i64 k0] w fun e w' => e = .returned (.int .i64 k') ∧ ∃ y, w' = ext w y := by
  obtain ⟨hn, h1⟩ := vVRs_get h
  rw [mkN_length] at hn
  subst hn
  have hx := hb.len
  have Hxl := Lib.hid hb.2
  have HB := Lib.hid (mkVs_bd h0 (xs := xs) (by have := hb.sum; omega))
  have hx1 := Lib.hid h1
  clear hb hk0 h h1
  go_enter Tryz.func21, Tryz.ntmps21
  go_wp2
  go_loopw [1, 5] (fun m i wr => ∃ k : Nat, i = .int .i64 k ∧ m = .int .i64 (mkN mkVs k0 (xs.take k)).2 ∧ k ≤ xs.length ∧ ∃ y, wr = ext w y) (fun _ i _ => xs.length - (intOf i).toNat)
  case atStart => exact ⟨0, rfl, by simp [mkN], by omega, refl_ext w⟩
  case round =>
    obtain ⟨k, rfl, rfl, hkl, hy⟩ := hrel
    by_cases hlt : k < xs.length
    · obtain ⟨b, o, A2, a2, B2, b9, rfl, hb, hc, hc1, hc2, hv⟩ := (hx1.out.toExt hy).atVR (k := k) (by simpa using hlt)
      have hle := (Hxl.out xs[k] (List.getElem_mem hlt)).1
      obtain ⟨b1, b2⟩ := HB.out k
      obtain ⟨b3, _⟩ := HB.out (k + 1)
      have HT := Lib.hid (mkN_take (mk := mkVs) (k := k0) hlt)
      rw [HT.out] at b3
      have hat := mkN_at (mk := mkVs) (k := k0) hlt
      obtain ⟨z, hz⟩ : ∃ z, (mkN mkVs k0 xs).1[k]'(by simpa using hlt) = z := ⟨_, rfl⟩
      rw [hz] at hat hc hc1 hc2 hv
      obtain ⟨m, hm⟩ : ∃ m, (mkN mkVs k0 (xs.take k)).2 = m := ⟨_, rfl⟩
      have HM := Lib.hid hm
      rw [hm] at b1 b2 b3 hat ⊢
      obtain ⟨x, hx'⟩ : ∃ x, xs[k] = x := ⟨_, rfl⟩
      have HX := Lib.hid hx'
      rw [hx'] at hle b3 hat
      have hz1 : z.1 = marks m x.1.length := by rw [hat]; rfl
      have hz2 : z.2.1 = m + x.1.length := by rw [hat]; rfl
      have hz3 : z.2.2 = (mkN mkI (m + x.1.length + 1) x.2.2).1 := by rw [hat]; rfl
      obtain ⟨hvi, hvr, _⟩ := vVR_get hv
      have hvr := (vRel_get hvr).2
      rw [hz1] at hc hvi
      rw [hz2] at hc1
      rw [hz3] at hc2 hvr
      obtain ⟨k5, hk5⟩ : ∃ k5, (mkN mkI (m + x.1.length + 1) x.2.2).2 = k5 := ⟨_, rfl⟩
      have HK5 := Lib.hid hk5
      have b4 : 0 ≤ k5 := by rw [← hk5]; exact b3
      have hx1' : x.1.length ≤ 1048576 := hle.1
      have hx1'' : x.1.length ≤ 1000000000 := by omega
      have HLE := Lib.hid hle.2.2
      have HVR := Lib.hid hvr
      have q1 : ((m + x.1.length) != (m + x.1.length)) = false := by simp
      rw [mkN_length] at hc2
      rw [marks_length] at hc
      have HVI := Lib.hid hvi
      clear hm hz hat hz1 hz2 hz3 b3 hx' hk5 hv hvr hvi hle
      go_wp2_with fail
      refine (heldIntS_any hx1'' HVI.out b1 (by omega)).mono ?_
      rintro e w2 ⟨rfl, hx2⟩
      have l2 := lt_x hb hx2
      have k1 := cell_x hc1 hb hx2
      have k2 := cell_x hc2 hb hx2
      have hvx := VD.toExt HVR.out hx2
      rw [mkN_length] at hvx
      have HVX := Lib.hid hvx
      clear hvx hc hc1 hc2 hb
      go_wp2_with (go_at_call 52; refine (heldIntSS_d HLE.out HK5 HVX.out (by omega) (by omega)).mono ?_; rintro e w3 ⟨rfl, hx3⟩)
      have e4 : (mkN mkVs k0 (xs.take (k + 1))).2 = k5 := by rw [HT.out, HM.out, HX.out]; exact HK5.out
      exact ⟨⟨k + 1, by go_num, by rw [e4], by omega, trans_ext (trans_ext hy hx2) hx3⟩, by simp [intOf]; omega⟩
    · go_wp2
      go_ret
      have e : k = xs.length := by omega
      subst e
      rw [List.take_length]
      exact ⟨by rw [hk.out]; rfl, hy⟩
end Go.Proofs.YtfigcfajkilhiaaGreat
