/- The first atom to which an atom can be attached: the program's closure. -/
import Derived.Test.YtoffbconbgipjaaGyo
import Derived.Test.YtoffbconbgipjaaValidQ
namespace Go.Proofs.Ytoffbconbgipjaa
open Go.RowKit

theorem RV.atA' {w : World} {b o : Nat} {d : List At} (h : RV 2 vAt w (some ⟨b, o, none⟩) d) {k : Nat} (hk : k < d.length) : b < w.heap.size ∧ ∃ s A' c', w.cell? ⟨b, o + k * 2, none⟩ = some (.string s) ∧ w.cell? ⟨b, o + k * 2 + 1, none⟩ = some (.slice A' (vof d k).length c') ∧ RI w A' (vof d k) := by
  obtain ⟨b', o', A', c', e, h1, h2, h3, h4⟩ := h.atA hk
  injection e with e
  injection e with e1 e2 _
  subst e1 e2
  rw [vof_get hk] at h3 h4
  exact ⟨h1, _, A', c', h2, h3, h4⟩
theorem RV.place {w : World} {α : Type} {size : Nat} {E : VE α} {A : Option Addr} {d : List α} (h : RV size E w A d) (hk : 0 < d.length) : ∃ b o, A = some ⟨b, o, none⟩ := by
  obtain ⟨b, o, e, _⟩ := h (by intro e; rw [e] at hk; simp at hk)
  exact ⟨b, o, e⟩
theorem RV.at0 {w : World} {g : Nat} {d : List Bool} (h : RB w (some ⟨g, 0, none⟩) d) {k : Nat} (hk : k < d.length) : g < w.heap.size ∧ w.cell? ⟨g, k, none⟩ = some (.bool (d.getD k true)) := by
  obtain ⟨b', o', e, h1, h2⟩ := h.atB hk
  injection e with e
  injection e with e1 e2 _
  subst e1 e2
  rw [Nat.zero_add] at h2
  exact ⟨h1, by rw [h2, List.getD_eq_getElem?_getD, List.getElem?_eq_getElem hk]; rfl⟩
theorem box1 {w : World} {B : Nat} {a : Value} (h : BoxAt w B #[a]) : B < w.heap.size ∧ w.cell? ⟨B, 0, none⟩ = some a ∧ ∀ j, w.frozen? ⟨B, j, none⟩ = false := ⟨h.1, h.2.1 0, h.2.2⟩
theorem cellX {w wr : World} {b o : Nat} {u : Value} (hy : ∃ y, wr = ext w y) (hb : b < w.heap.size) (h : w.cell? ⟨b, o, none⟩ = some u) : wr.cell? ⟨b, o, none⟩ = some u := by
  obtain ⟨y, rfl⟩ := hy
  rw [cell_ext hb]; exact h
theorem ltX {w wr : World} {b : Nat} (hy : ∃ y, wr = ext w y) (hb : b < w.heap.size) : b < wr.heap.size := Nat.lt_of_lt_of_le hb (size_of_ext hy)
theorem bool3 {t0 o r e u : Bool} (h : (t0 && (o && r)) = e) (k : u = (t0 && o)) : (u && r) = e := by
  subst h k
  cases t0 <;> simp
set_option maxRecDepth 100000 in
set_option maxHeartbeats 8000000 in
theorem ear_any {i bn bg bq g : Nat} {z : Int} {ats : List At} {gone : List Bool} {A B : Option Addr} {c e1 m cg : Nat} {w : World} (hx : ats.length ≤ 1000) (hxl : ∀ x ∈ ats, x.2.length ≤ 100000000) (hi : i < ats.length) (hgl : gone.length = ats.length)
    (BN : BoxAt w bn #[.int .i64 ats.length]) (BG : BoxAt w bg #[.slice (some ⟨g, 0, none⟩) ats.length cg]) (BQ : BoxAt w bq #[.int .i64 z, .slice A ats.length c, .slice B m e1]) (hA : RV 2 vAt w A ats) (hB : RB w (some ⟨g, 0, none⟩) gone) :
    Calls Try.prog 88 #[.int .i64 i, .pointer (some ⟨bn, 0, none⟩), .pointer (some ⟨bg, 0, none⟩), .pointer (some ⟨bq, 0, none⟩)] w fun e w' => e = .returned (.int .i64 (oInt? (ear ats gone i))) ∧ ∃ y, w' = ext w y := by
  have Hx : Hid (∀ j, (vof ats j).length ≤ 100000000) := Lib.hid fun j => by
    by_cases hj : j < ats.length
    · rw [← vof_get hj]; exact hxl _ (List.getElem_mem hj)
    · unfold vof
      rw [List.getD_eq_getElem?_getD, List.getElem?_eq_none (by omega)]
      simp
  have HG := Lib.hid hgl
  obtain ⟨b, o, rfl⟩ := hA.place (by omega)
  clear hxl hgl
  go_enter Try.func88, Try.ntmps88
  go_wp2
  go_loopw [6] (fun k wr => ∃ k' : Nat, k = .int .i64 k' ∧ k' ≤ ats.length ∧ (∃ y, wr = ext w y) ∧ Hid (findF (canK ats gone i) (ats.length - k') k' = ear ats gone i)) (fun k _ => ats.length - (intOf k).toNat)
  case atStart => exact ⟨0, rfl, by omega, refl_ext w, Lib.hid rfl⟩
  case round =>
    obtain ⟨k, rfl, hk, hy, Hj⟩ := hrel
    obtain ⟨ln, an, fn⟩ := box1 (BN.toExt hy)
    obtain ⟨lg, ag, fg⟩ := box1 (BG.toExt hy)
    obtain ⟨lq, aq, aq', aq'', fq⟩ := box3 (BQ.toExt hy)
    by_cases hlt : k < ats.length
    · obtain ⟨gl, gc⟩ := (hB.toExt hy).at0 (k := k) (by rw [HG.out]; exact hlt)
      obtain ⟨t1, ht1⟩ : ∃ t, decide (k ≠ i) = t := ⟨_, rfl⟩
      obtain ⟨t2, ht2⟩ : ∃ t, gone.getD k true = t := ⟨_, rfl⟩
      have q1 : ((k : Int) == (i : Int)) = !t1 := by rw [← ht1]; by_cases q : k = i <;> simp [q]; omega
      rw [ht2] at gc
      have e := Hj.out
      rw [findF_step hlt, show canK ats gone i k = (t1 && !t2 && earOK ats gone i k) by unfold canK; rw [ht1, ht2]] at e
      have He := Lib.hid e
      clear e ht1 ht2 Hj
      cases t1 with
      | false =>
        go_wp2
        exact ⟨⟨k + 1, by go_num, by omega, hy, Lib.hid (by simpa using He.out)⟩, by simp [intOf]; omega⟩
      | true =>
        cases t2 with
        | true =>
          go_wp2
          exact ⟨⟨k + 1, by go_num, by omega, hy, Lib.hid (by simpa using He.out)⟩, by simp [intOf]; omega⟩
        | false =>
          obtain ⟨lb, s0, A0, c0, as0, av0, hV0⟩ := hA.atA' hi
          have hx0 := Hx.out i
          have HE0 := Lib.hid (show (vof ats i).all (okV ats gone i k) = earOK ats gone i k from rfl)
          obtain ⟨xs, hxs⟩ : ∃ xs, vof ats i = xs := ⟨_, rfl⟩
          rw [hxs] at hV0 hx0 av0
          have HE : Hid (xs.all (okV ats gone i k) = earOK ats gone i k) := Lib.hid (by rw [← hxs]; exact HE0.out)
          have avr := cellX hy lb av0
          have lbr := ltX hy lb
          clear hxs HE0 as0
          go_wp2
          clear avr lbr
          go_loopw [7, 32] (fun o j vs => ∃ (q : Nat) (t0 : Bool), o = .bool t0 ∧ j = .int .i64 q ∧ q ≤ xs.length ∧ (∃ y, vs = ext w y) ∧ Hid ((t0 && (xs.drop q).all (okV ats gone i k)) = earOK ats gone i k)) (fun _ j _ => xs.length - (intOf j).toNat)
          case atStart => exact ⟨0, true, rfl, rfl, by omega, hy, Lib.hid (by simpa using HE.out)⟩
          case round =>
            obtain ⟨q, t0, rfl, rfl, hq, hyv, Hq⟩ := hrel
            obtain ⟨ln2, an2, fn2⟩ := box1 (BN.toExt hyv)
            obtain ⟨lg2, ag2, fg2⟩ := box1 (BG.toExt hyv)
            obtain ⟨lq2, aq2, aq2', aq2'', fq2⟩ := box3 (BQ.toExt hyv)
            by_cases hql : q < xs.length
            · obtain ⟨b3, o3, rfl, hb3, hc3⟩ := (hV0.toExt hyv).atI hql
              obtain ⟨v, hv⟩ : ∃ v, xs[q] = v := ⟨_, rfl⟩
              have e := Hq.out
              rw [allA_step hql, hv] at e
              rw [hv] at hc3
              have He2 := Lib.hid e
              clear e hv Hq
              go_wp2
              go_loopw [7, 10] (fun o j us => ∃ (p : Nat) (t : Bool), o = .bool t ∧ j = .int .i64 p ∧ p ≤ ats.length ∧ (∃ y, us = ext w y) ∧ Hid ((t && allF (fun j => !blk ats gone i v j || decide (v ∈ vof ats k)) (ats.length - p) p) = (t0 && okV ats gone i k v))) (fun _ j _ => ats.length - (intOf j).toNat)
              case atStart => exact ⟨0, t0, rfl, rfl, by omega, hyv, Lib.hid rfl⟩
              case round =>
                obtain ⟨p, t, rfl, rfl, hp, hyu, Hp⟩ := hrel
                obtain ⟨ln3, an3, fn3⟩ := box1 (BN.toExt hyu)
                obtain ⟨lg3, ag3, fg3⟩ := box1 (BG.toExt hyu)
                obtain ⟨lq3, aq3, aq3', aq3'', fq3⟩ := box3 (BQ.toExt hyu)
                by_cases hpl : p < ats.length
                · cases t with
                  | false =>
                    have HK := Lib.hid (bool3 He2.out (u := false) (by have := Hp.out; simpa using this))
                    go_wp2
                    exact ⟨⟨q + 1, false, rfl, by go_num, by omega, hyu, HK⟩, by simp [intOf]; omega⟩
                  | true =>
                    obtain ⟨gl3, gc3⟩ := (hB.toExt hyu).at0 (k := p) (by rw [HG.out]; exact hpl)
                    obtain ⟨lb3, s3, A3, c3, as3, av3, hV3⟩ := (hA.toExt hyu).atA' hpl
                    obtain ⟨lb4, s4, A4, c4, as4, av4, hV4⟩ := (hA.toExt hyu).atA' hlt
                    have x3 := Hx.out p
                    have x4 := Hx.out k
                    have e := Hp.out
                    rw [allF_step hpl] at e
                    obtain ⟨d1, hd1⟩ : ∃ t, decide (p ≠ i) = t := ⟨_, rfl⟩
                    obtain ⟨d2, hd2⟩ : ∃ t, gone.getD p true = t := ⟨_, rfl⟩
                    obtain ⟨d3, hd3⟩ : ∃ t, decide (v ∈ vof ats p) = t := ⟨_, rfl⟩
                    obtain ⟨d4, hd4⟩ : ∃ t, decide (v ∈ vof ats k) = t := ⟨_, rfl⟩
                    have q3 : ((p : Int) != (i : Int)) = d1 := by rw [← hd1]; by_cases q : p = i <;> simp [q]; omega
                    rw [hd2] at gc3
                    have e9 : (!blk ats gone i v p || decide (v ∈ vof ats k)) = (!(d1 && !d2 && d3) || d4) := by unfold blk; rw [hd1, hd2, hd3, hd4]
                    have He := Lib.hid (show ((!(d1 && !d2 && d3) || d4) && allF (fun j => !blk ats gone i v j || decide (v ∈ vof ats k)) (ats.length - (p + 1)) (p + 1)) = (t0 && okV ats gone i k v) by rw [← e9, ← e]; simp)
                    have N3 := Lib.hid hd3
                    have N4 := Lib.hid hd4
                    clear e e9 hd1 hd2 hd3 hd4 Hp
                    cases d1 with
                    | false =>
                      go_wp2
                      exact ⟨⟨p + 1, true, rfl, by go_num, by omega, hyu, Lib.hid (by simpa using He.out)⟩, by simp [intOf]; omega⟩
                    | true =>
                      cases d2 with
                      | true =>
                        go_wp2
                        exact ⟨⟨p + 1, true, rfl, by go_num, by omega, hyu, Lib.hid (by simpa using He.out)⟩, by simp [intOf]; omega⟩
                      | false =>
                        cases d3 with
                        | false =>
                          go_wp2_with (go_at_call 71; refine (Contains_any (by omega) (hV3.toExt (by refine Chg.isExt (F := []) ?_ (refl_ext _) (by simp); repeat (with_reducible (first | exact Chg.refl _ _ | exact Nat.le_refl _ | exact Chg.ofExt (by assumption) | refine Chg.trans0 ?_ (by assumption) | refine Chg.extS ?_ _ | refine Chg.alloc ?_ _ | refine Chg.drew ?_ | refine Chg.setCellE ?_ ?_ _ | refine le_addk ?_ _ | refine le_ext ?_ | refine le_alloc ?_ _ | refine le_setC ?_ _ _ | refine le_drew ?_ | assumption | (refine Nat.le_of_lt ?_; omega) | omega))))).mono ?_; rintro e w3 ⟨rfl, y3, rfl⟩; rw [N3.out])
                          exact ⟨⟨p + 1, true, rfl, by go_num, by omega, (by refine Chg.isExt (F := []) ?_ (refl_ext _) (by simp); repeat (with_reducible (first | exact Chg.refl _ _ | exact Nat.le_refl _ | exact Chg.ofExt (by assumption) | refine Chg.trans0 ?_ (by assumption) | refine Chg.extS ?_ _ | refine Chg.alloc ?_ _ | refine Chg.drew ?_ | refine Chg.setCellE ?_ ?_ _ | refine le_addk ?_ _ | refine le_ext ?_ | refine le_alloc ?_ _ | refine le_setC ?_ _ _ | refine le_drew ?_ | assumption | (refine Nat.le_of_lt ?_; omega) | omega))), Lib.hid (by simpa using He.out)⟩, by simp [intOf]; omega⟩
                        | true =>
                          go_wp2_with (first
                            | (go_at_call_of 71 (A3); refine (Contains_any (by omega) (hV3.toExt (by refine Chg.isExt (F := []) ?_ (refl_ext _) (by simp); repeat (with_reducible (first | exact Chg.refl _ _ | exact Nat.le_refl _ | exact Chg.ofExt (by assumption) | refine Chg.trans0 ?_ (by assumption) | refine Chg.extS ?_ _ | refine Chg.alloc ?_ _ | refine Chg.drew ?_ | refine Chg.setCellE ?_ ?_ _ | refine le_addk ?_ _ | refine le_ext ?_ | refine le_alloc ?_ _ | refine le_setC ?_ _ _ | refine le_drew ?_ | assumption | (refine Nat.le_of_lt ?_; omega) | omega))))).mono ?_; rintro e w3 ⟨rfl, y3, rfl⟩; rw [N3.out])
                            | (go_at_call_of 71 (A4); refine (Contains_any (by omega) (hV4.toExt (by refine Chg.isExt (F := []) ?_ (refl_ext _) (by simp); repeat (with_reducible (first | exact Chg.refl _ _ | exact Nat.le_refl _ | exact Chg.ofExt (by assumption) | refine Chg.trans0 ?_ (by assumption) | refine Chg.extS ?_ _ | refine Chg.alloc ?_ _ | refine Chg.drew ?_ | refine Chg.setCellE ?_ ?_ _ | refine le_addk ?_ _ | refine le_ext ?_ | refine le_alloc ?_ _ | refine le_setC ?_ _ _ | refine le_drew ?_ | assumption | (refine Nat.le_of_lt ?_; omega) | omega))))).mono ?_; rintro e w4 ⟨rfl, y4, rfl⟩; rw [N4.out]))
                          exact ⟨⟨p + 1, d4, rfl, by go_num, by omega, (by refine Chg.isExt (F := []) ?_ (refl_ext _) (by simp); repeat (with_reducible (first | exact Chg.refl _ _ | exact Nat.le_refl _ | exact Chg.ofExt (by assumption) | refine Chg.trans0 ?_ (by assumption) | refine Chg.extS ?_ _ | refine Chg.alloc ?_ _ | refine Chg.drew ?_ | refine Chg.setCellE ?_ ?_ _ | refine le_addk ?_ _ | refine le_ext ?_ | refine le_alloc ?_ _ | refine le_setC ?_ _ _ | refine le_drew ?_ | assumption | (refine Nat.le_of_lt ?_; omega) | omega))), Lib.hid (by simpa using He.out)⟩, by simp [intOf]; omega⟩
                · have HK := Lib.hid (bool3 He2.out (u := t) (by have := Hp.out; rw [allF_end hpl] at this; simpa using this))
                  go_wp2
                  exact ⟨⟨q + 1, t, rfl, by go_num, by omega, hyu, HK⟩, by simp [intOf]; omega⟩
            · have e := Hq.out
              rw [allA_end hql, Bool.and_true] at e
              have e2 := He.out
              rw [← e] at e2
              have He2 := Lib.hid e2
              clear e e2 Hq
              cases t0 with
              | true =>
                have HK := Lib.hid (show ear ats gone i = some k by simpa using He2.out.symm)
                go_wp2
                go_ret
                exact ⟨by rw [HK.out]; rfl, hyv⟩
              | false =>
                go_wp2
                exact ⟨⟨k + 1, by go_num, by omega, hyv, Lib.hid (by simpa using He2.out)⟩, by simp [intOf]; omega⟩
    · have e := Hj.out
      rw [findF_end hlt] at e
      have HK := Lib.hid e.symm
      clear e Hj
      go_wp2
      go_ret
      exact ⟨by rw [HK.out]; rfl, hy⟩
end Go.Proofs.Ytoffbconbgipjaa
