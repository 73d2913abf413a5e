/- Connected components: the program's way. -/
import Derived.Test.YtoffbconbgipjaaComp
import Derived.Test.YtoffbconbgipjaaComp5
import Derived.Test.YtoffbconbgipjaaNeigh
import Derived.Test.YtoffbconbgipjaaRowsT
namespace Go.Proofs.Ytoffbconbgipjaa
open Go.RowKit

/-- ascending, and within the bounds -/
def Good (n : Nat) (l : List Int) : Prop := Asc l ∧ ∀ x ∈ l, 0 ≤ x ∧ x < (n : Int)
theorem Good.len {n : Nat} {l : List Int} (h : Good n l) : l.length ≤ n := by
  refine nodup_len n l ?_ h.2
  exact List.Pairwise.imp (fun h => by omega) h.1
theorem Good.uni {n : Nat} {a b : List Int} (ha : Good n a) (hb : Good n b) : Good n (uniL a b) := ⟨asc_uniL ha.1, fun x hx => by
  rcases mem_uniL.1 hx with h | h
  · exact ha.2 x h
  · exact hb.2 x h⟩
theorem Good.one {n v : Nat} (h : v < n) : Good n [(v : Int)] := ⟨List.pairwise_singleton _ _, fun x hx => by simp at hx; omega⟩
theorem Good.nb {d : Qd} (v : Int) : Good d.1.toNat (nbrs d v) := by
  unfold nbrs
  split
  · exact ⟨asc_selF _ _, fun x hx => by have := (mem_selF _ _).1 hx; omega⟩
  · exact ⟨asc_nil, by simp⟩
def growF (nb : Int → List Int) : List Int → List Int → List Int
  | acc, [] => acc
  | acc, x :: xs => growF nb (uniL acc (nb x)) xs
theorem growF_eq (nb : Int → List Int) : ∀ (xs acc : List Int), growF nb acc xs = xs.foldl (fun acc x => uniL acc (nb x)) acc
  | [], _ => rfl
  | x :: xs, acc => by rw [growF, List.foldl_cons, growF_eq nb xs]
theorem growF_step {nb : Int → List Int} {acc xs : List Int} {k : Nat} (h : k < xs.length) : growF nb acc (xs.drop k) = growF nb (uniL acc (nb xs[k])) (xs.drop (k + 1)) := by
  rw [List.drop_eq_getElem_cons h, growF]
theorem growF_end {nb : Int → List Int} {acc xs : List Int} {k : Nat} (h : ¬ k < xs.length) : growF nb acc (xs.drop k) = acc := by
  rw [List.drop_eq_nil_of_le (by omega), growF]
theorem growN_step {nb : Int → List Int} {n k : Nat} {p : List Int} (h : k < n) : growN nb (n - k) p = growN nb (n - (k + 1)) (growR nb p) := by
  rw [show n - k = (n - (k + 1)) + 1 by omega, growN]
theorem growN_end {nb : Int → List Int} {n k : Nat} {p : List Int} (h : ¬ k < n) : growN nb (n - k) p = p := by
  rw [show n - k = 0 by omega, growN]
theorem ccI_step {nb : Int → List Int} {n k : Nat} {done : List Int} {out : List (List Int)} (h : k < n) : ccI nb n (n - k) k done out = if decide ((k : Int) ∈ done) = true then ccI nb n (n - (k + 1)) (k + 1) done out else ccI nb n (n - (k + 1)) (k + 1) (done ++ growN nb n [(k : Int)]) (out ++ [growN nb n [(k : Int)]]) := by
  rw [show n - k = (n - (k + 1)) + 1 by omega, ccI]
theorem ccI_end {nb : Int → List Int} {n k : Nat} {done : List Int} {out : List (List Int)} (h : ¬ k < n) : ccI nb n (n - k) k done out = out := by
  rw [show n - k = 0 by omega, ccI]
def ccQ (d : Qd) : List (List Int) := if vqB d = true then ccP (nbrs d) d.1.toNat else []
def CcP (d : Qd) (w : World) (e : Ending) (w' : World) : Prop := ∃ v F, e = .returned v ∧ (∃ y, w' = ext w y) ∧ SV 22 1 (sSl 3 1 sI) w' v (ccQ d) F ∧ F.Nodup ∧ ∀ b ∈ F, w.heap.size ≤ b
set_option maxRecDepth 100000 in
set_option maxHeartbeats 16000000 in
theorem ConnectedComponents_any {A B : Option Addr} {c e1 : Nat} {d : Qd} {w : World} (hb : BQ d) (h : vQ w [.int .i64 d.1, .slice A d.2.1.length c, .slice B d.2.2.length e1] d) :
    Calls Try.prog 48 #[.agg #[.int .i64 d.1, .slice A d.2.1.length c, .slice B d.2.2.length e1]] w (CcP d w) := by
  have HB := Lib.hid hb
  have HV := Lib.hid h
  have HNB := Lib.hid (fun v => Good.nb (d := d) v)
  obtain ⟨z, ats, out⟩ := d
  dsimp only at ⊢
  clear h hb
  obtain ⟨t1, ht1⟩ : ∃ t, vqB (z, ats, out) = t := ⟨_, rfl⟩
  have N1 := Lib.hid ht1
  cases t1 with
  | false =>
    have HE := Lib.hid (show ccQ (z, ats, out) = [] by unfold ccQ; rw [ht1]; rfl)
    clear ht1
    go_enter Try.func48, Try.ntmps48
    go_wp2_with (go_at_call 28; refine (IsValidQuery_any (d := (z, ats, out)) HB.out (VD.toExt HV.out (by refine Chg.isExt (F := []) ?_ (refl_ext _) (by simp); repeat (with_reducible (first | exact Chg.refl _ _ | exact Nat.le_refl _ | exact Chg.ofExt (by assumption) | refine Chg.trans0 ?_ (by assumption) | refine Chg.extS ?_ _ | refine Chg.alloc ?_ _ | refine Chg.drew ?_ | refine Chg.setCellE ?_ ?_ _ | refine le_addk ?_ _ | refine le_ext ?_ | refine le_alloc ?_ _ | refine le_setC ?_ _ _ | refine le_drew ?_ | assumption | (refine Nat.le_of_lt ?_; omega) | omega))))).mono ?_; rintro e w1 ⟨rfl, hx1⟩; rw [N1.out])
    go_ret
    exact ⟨_, [], rfl, (by refine Chg.isExt (F := []) ?_ (refl_ext _) (by simp); repeat (with_reducible (first | exact Chg.refl _ _ | exact Nat.le_refl _ | exact Chg.ofExt (by assumption) | refine Chg.trans0 ?_ (by assumption) | refine Chg.extS ?_ _ | refine Chg.alloc ?_ _ | refine Chg.drew ?_ | refine Chg.setCellE ?_ ?_ _ | refine le_addk ?_ _ | refine le_ext ?_ | refine le_alloc ?_ _ | refine le_setC ?_ _ _ | refine le_drew ?_ | assumption | (refine Nat.le_of_lt ?_; omega) | omega))), by rw [HE.out]; exact SV.nil, by simp, by simp⟩
  | true =>
    obtain ⟨g1, g2, _⟩ := vqB_vars ht1
    dsimp only at g1 g2
    obtain ⟨m, rfl⟩ : ∃ m : Nat, z = m := ⟨z.toNat, by omega⟩
    have hm5 : m ≤ 5 := by omega
    have HE := Lib.hid (show ccQ ((m : Int), ats, out) = ccI (nbrs ((m : Int), ats, out)) m m 0 [] [] by unfold ccQ ccP; rw [ht1]; simp)
    obtain ⟨nb, hnb⟩ : ∃ nb, nbrs ((m : Int), ats, out) = nb := ⟨_, rfl⟩
    rw [hnb] at HE
    have HN := Lib.hid hnb
    have HG : Hid (∀ v, Good m (nb v)) := Lib.hid (fun v => by have := HNB.out v; rw [hnb] at this; simpa using this)
    clear ht1 g1 g2 hnb HNB
    go_enter Try.func48, Try.ntmps48
    go_upto_region 4 with (go_at_call 28; refine (IsValidQuery_any (d := ((m : Int), ats, out)) HB.out (VD.toExt HV.out (by refine Chg.isExt (F := []) ?_ (refl_ext _) (by simp); repeat (with_reducible (first | exact Chg.refl _ _ | exact Nat.le_refl _ | exact Chg.ofExt (by assumption) | refine Chg.trans0 ?_ (by assumption) | refine Chg.extS ?_ _ | refine Chg.alloc ?_ _ | refine Chg.drew ?_ | refine Chg.setCellE ?_ ?_ _ | refine le_addk ?_ _ | refine le_ext ?_ | refine le_alloc ?_ _ | refine le_setC ?_ _ _ | refine le_drew ?_ | assumption | (refine Nat.le_of_lt ?_; omega) | omega))))).mono ?_; rintro e w1 ⟨rfl, hx1⟩; rw [N1.out]; have P1 := (BoxAt.new w #[.int .i64 m, .slice A ats.length c, .slice B out.length e1] 41).toExt hx1)
    have hxw : ∃ y, w1 = ext w y := (by refine Chg.isExt (F := []) ?_ (refl_ext _) (by simp); repeat (with_reducible (first | exact Chg.refl _ _ | exact Nat.le_refl _ | exact Chg.ofExt (by assumption) | refine Chg.trans0 ?_ (by assumption) | refine Chg.extS ?_ _ | refine Chg.alloc ?_ _ | refine Chg.drew ?_ | refine Chg.setCellE ?_ ?_ _ | refine le_addk ?_ _ | refine le_ext ?_ | refine le_alloc ?_ _ | refine le_setC ?_ _ _ | refine le_drew ?_ | assumption | (refine Nat.le_of_lt ?_; omega) | omega)))
    have hD0 := SV.empty (α := Int) (te := 3) (size := 1) (E := sI) w1
    go_wp2
    go_loopw [3, 4, 5] (fun vo vd i wr => ∃ (k : Nat) (done : List Int) (outs : List (List Int)) (FD FO : List Nat), i = .int .i64 k ∧ k ≤ m ∧ SV 3 1 sI wr vd done FD ∧ SV 22 1 (sSl 3 1 sI) wr vo outs FO ∧ FO.Nodup ∧ (∀ b ∈ FD, b ∉ FO) ∧ (∀ b ∈ FD, w1.heap.size ≤ b) ∧ (∀ b ∈ FO, w1.heap.size ≤ b) ∧ (∃ y, wr = ext w1 y) ∧ done.length ≤ 5 * k ∧ outs.length ≤ k ∧ Hid (ccI nb m (m - k) k done outs = ccI nb m m 0 [] [])) (fun _ _ i _ => m - (intOf i).toNat)
    case atStart => exact ⟨0, [], [], [w1.heap.size], [], rfl, by omega, hD0, SV.nil, by simp, by simp, by simp, by simp, alloc_ext _ _, by simp, by simp, Lib.hid rfl⟩
    case round =>
      clear hD0
      obtain ⟨k, done, outs, FD, FO, rfl, hk, hSD, hSO, hNO, hdis, hFD, hFO, hy, hdl, hol, Hj⟩ := hrel
      have HSD := Lib.hid hSD
      have HSO := Lib.hid hSO
      have HNO := Lib.hid hNO
      have HDI := Lib.hid hdis
      have HFD := Lib.hid hFD
      have HFO := Lib.hid hFO
      obtain ⟨AD, cD, rfl, _, _, hVD⟩ := hSD.view sI_v
      obtain ⟨AO, cO, rfl, _⟩ := hSO.form
      obtain ⟨l1, a1, a1', a1'', f1⟩ := box3 (P1.toExt hy)
      clear hSD hSO hNO hdis hFD hFO
      by_cases hlt : k < m
      · have e := Hj.out
        rw [ccI_step hlt] at e
        obtain ⟨t2, ht2⟩ : ∃ t, decide ((k : Int) ∈ done) = t := ⟨_, rfl⟩
        rw [ht2] at e
        have N2 := Lib.hid ht2
        clear ht2 Hj
        cases t2 with
        | true =>
          have He := Lib.hid e
          clear e
          go_wp2_with (go_at_call 81; refine (hasInt_any (by omega) hVD).mono ?_; rintro e w2 ⟨rfl, hx2⟩; rw [N2.out])
          exact ⟨⟨k + 1, done, outs, FD, FO, by go_num, by omega, HSD.out.toExt hx2, HSO.out.toExt hx2, HNO.out, HDI.out, HFD.out, HFO.out, trans_ext hy hx2, by omega, by omega, Lib.hid (by simpa using He.out)⟩, by simp [intOf]; omega⟩
        | false =>
          have He := Lib.hid e
          clear e
          have hGk := Good.one hlt
          go_upto_region 9 with (go_at_call 81; refine (hasInt_any (by omega) hVD).mono ?_; rintro e w2 ⟨rfl, hx2⟩; rw [N2.out])
          have hy2 := trans_ext hy hx2
          have hS1 := SV.fresh1 (te := 3) (E := sI) (u := .int .i64 k) (d := (k : Int)) w2 ⟨rfl, rfl⟩
          go_wp2
          go_loopw [6, 7] (fun vp i ws => ∃ (q : Nat) (part : List Int) (FP : List Nat), i = .int .i64 q ∧ q ≤ m ∧ SV 3 1 sI ws vp part FP ∧ (∀ b ∈ FP, w2.heap.size ≤ b) ∧ (∃ y, ws = ext w2 y) ∧ Good m part ∧ Hid (growN nb (m - q) part = growN nb m [(k : Int)])) (fun _ i _ => m - (intOf i).toNat)
          case atStart => exact ⟨0, [(k : Int)], [w2.heap.size], rfl, by omega, hS1, by simp, alloc_ext _ _, hGk, Lib.hid rfl⟩
          case round =>
            clear hS1
            obtain ⟨q, part, FP, rfl, hq, hSP, hFP, hys, hGP, Hq⟩ := hrel
            have HSP := Lib.hid hSP
            have HFP := Lib.hid hFP
            obtain ⟨AP, cP, rfl, _, _, hVP⟩ := hSP.view sI_v
            have hcapP := Lib.hid (fun h : AP = none => hSP.cap0 h)
            have HGP := Lib.hid hGP
            have hpl := hGP.len
            obtain ⟨l3, a3, a3', a3'', f3⟩ := box3 (P1.toExt (trans_ext hy2 hys))
            have hlP := Lib.hid hSP.lt
            clear hSP hFP hGP
            by_cases hql : q < m
            · have e := Hq.out
              rw [growN_step hql, show growR nb part = growF nb part part from (growF_eq nb part part).symm] at e
              have He2 := Lib.hid e
              clear e Hq
              go_wp2_with (go_at_call 82; refine (copyInts_n rfl (by omega) hcapP.out hVP).mono ?_; rintro e w3 ⟨v3, F3, rfl, hx3, hS3, hF3⟩; obtain ⟨A3, c3, rfl, _, _, hV3⟩ := hS3.view sI_v)
              have hys3 := trans_ext hys hx3
              go_loopw [6, 34] (fun vp i us => ∃ (j : Nat) (acc : List Int) (FA : List Nat), i = .int .i64 j ∧ j ≤ part.length ∧ SV 3 1 sI us vp acc FA ∧ (∀ b ∈ FA, w2.heap.size ≤ b) ∧ (∃ y, us = ext w3 y) ∧ Good m acc ∧ Hid (growF nb acc (part.drop j) = growF nb part part)) (fun _ i _ => part.length - (intOf i).toNat)
              case atStart => exact ⟨0, part, FP, rfl, by omega, HSP.out.toExt hx3, HFP.out, refl_ext _, HGP.out, Lib.hid rfl⟩
              case round =>
                obtain ⟨j, acc, FA, rfl, hj, hSA, hFA, hyu, hGA, Hu⟩ := hrel
                have HFA := Lib.hid hFA
                have HSA := Lib.hid hSA
                have HGA := Lib.hid hGA
                have hal := hGA.len
                obtain ⟨AA, cA, rfl, _, _, hVA⟩ := hSA.view sI_v
                have hcapA := Lib.hid (fun h : AA = none => hSA.cap0 h)
                obtain ⟨l5, a5, a5', a5'', f5⟩ := box3 (P1.toExt (trans_ext hy2 (trans_ext hys3 hyu)))
                clear hFA hSA hGA
                by_cases hjl : j < part.length
                · obtain ⟨b, o, rfl, hb, hc⟩ := (hV3.toExt hyu).atI hjl
                  have e := Hu.out
                  rw [growF_step hjl] at e
                  obtain ⟨x, hxx⟩ : ∃ x, part[j] = x := ⟨_, rfl⟩
                  rw [hxx] at e hc
                  have He3 := Lib.hid e
                  have hnl := (HG.out x).len
                  have hGU := Lib.hid (HGA.out.uni (HG.out x))
                  have HX : Hid (nbrs ((m : Int), ats, out) x = nb x) := Lib.hid (by rw [HN.out])
                  have hxb : ∃ y, wr = ext w y := trans_ext hxw (trans_ext hy2 (trans_ext hys3 hyu))
                  clear e hxx Hu
                  go_wp2_with (first
                    | (go_at_call 32; refine (Neighbors_any (d := ((m : Int), ats, out)) HB.out (VD.toExt HV.out hxb)).mono ?_; rintro e w6 ⟨v6, F6, rfl, hx6, hS6, hF6⟩; rw [HX.out] at hS6; obtain ⟨A6, c6, rfl, _, _, hV6⟩ := hS6.view sI_v)
                    | (go_at_call 72; refine (unite_any (by omega) hcapA.out (hVA.toExt hx6) (by omega) hV6).mono ?_; rintro e w7 ⟨v7, F7, rfl, hx7, hS7, hF7⟩))
                  exact ⟨⟨j + 1, _, F7, by go_num, by omega, hS7, fun b hb => Nat.le_trans (Nat.le_trans (size_of_ext hys3) (Nat.le_trans (size_of_ext hyu) (size_of_ext hx6))) (hF7 b hb), trans_ext hyu (trans_ext hx6 hx7), hGU.out, He3⟩, by simp [intOf]; omega⟩
                · have e := Hu.out
                  rw [growF_end hjl] at e
                  have HK := Lib.hid (show growN nb (m - (q + 1)) acc = growN nb m [(k : Int)] by rw [e]; exact He2.out)
                  clear e Hu
                  go_wp2
                  exact ⟨⟨q + 1, acc, FA, by go_num, by omega, HSA.out, HFA.out, trans_ext hys3 hyu, HGA.out, HK⟩, by simp [intOf]; omega⟩
            · have e := Hq.out
              rw [growN_end hql] at e
              have HK := Lib.hid (show ccI nb m (m - (k + 1)) (k + 1) (done ++ part) (outs ++ [part]) = ccI nb m m 0 [] [] by rw [e]; simpa using He.out)
              have hz2 := size_of_ext hx2
              have hzs := size_of_ext hys
              have hDlt := Lib.hid HSD.out.lt
              have hOlt := Lib.hid HSO.out.lt
              have hSDs := HSD.out.toExt (trans_ext hx2 hys)
              have HDP : Hid (∀ b ∈ FP, b ∉ FD) := Lib.hid (fun b hb h => by have := HFP.out b hb; have := hDlt.out b h; omega)
              have HOP : Hid ((FO ++ FP).Nodup) := Lib.hid (List.nodup_append.2 ⟨HNO.out, HSP.out.nodup, fun a ha b hb e => by subst e; have := HFP.out a hb; have := hOlt.out a ha; omega⟩)
              have HDO : Hid (∀ b ∈ FO, b ∉ FD) := Lib.hid (fun b hb h => HDI.out b h hb)
              clear e Hq
              go_wp2_with (first
                | (at_builtin; refine wpList_appL (E := sI) (V := vI) (es := part) rfl _ _ _ rfl tI rfl hSDs rfl hcapP.out hVP vI_s vI_1 (by omega) (by omega) ?_; intro v8 w8 F8 hS8 hC8 hF8)
                | (at_builtin; refine wpList_appN (E := sSl 3 1 sI) (d := part) (G := FP) rfl _ _ _ rfl tIIr rfl rfl rfl (by simp) ⟨_, rfl, HSP.out.chg hC8 HDP.out⟩ rfl (by simp [Value.oneCell']) ((HSO.out.toExt (trans_ext hx2 hys)).chg hC8 HDO.out) HOP.out (by omega) (by omega) ?_; intro v9 w9 F9 hS9 hC9 hN9 hF9))
              have hlt8 := hS8.lt
              have hz8 := hC8.size
              have hSD9 := hS8.chg hC9 (fun b hb h => by
                rcases hF8 b hb with h1 | h1
                · exact HDI.out b h1 h
                · have := hOlt.out b h; omega)
              have hdis9 : ∀ b ∈ F8, b ∉ F9 := fun b hb h => by
                rcases hF9 b h with h1 | h1 | h1
                · rcases hF8 b hb with h2 | h2
                  · exact HDI.out b h2 h1
                  · have := hOlt.out b h1; omega
                · rcases hF8 b hb with h2 | h2
                  · exact HDP.out b h1 h2
                  · have := hlP.out b h1; omega
                · have := hlt8 b hb; omega
              have hz1 := size_of_ext hy
              have hn8 : ∀ b ∈ F8, w1.heap.size ≤ b := fun b hb => by
                rcases hF8 b hb with h | h
                · exact HFD.out b h
                · omega
              have hn9 : ∀ b ∈ F9, w1.heap.size ≤ b := fun b hb => by
                rcases hF9 b hb with h | h | h
                · exact HFO.out b h
                · have := HFP.out b h; omega
                · omega
              have hx8 : ∃ y, w8 = ext w1 y := hC8.isExt (trans_ext hy2 hys) HFD.out
              exact ⟨⟨k + 1, done ++ part, outs ++ [part], F8, F9, by go_num, by omega, hSD9, hS9, hN9, hdis9, hn8, hn9, hC9.isExt hx8 HFO.out, by simp; omega, by simp; omega, HK⟩, by simp [intOf]; omega⟩
      · have e := Hj.out
        rw [ccI_end hlt] at e
        have HK := Lib.hid (show ccQ ((m : Int), ats, out) = outs by rw [HE.out, ← e])
        clear e Hj
        go_wp2
        go_ret
        show CcP _ w _ _
        exact ⟨_, FO, rfl, trans_ext hxw hy, by rw [HK.out]; exact HSO.out, HNO.out, fun b hb => Nat.le_trans (size_of_ext hxw) (HFO.out b hb)⟩
end Go.Proofs.Ytoffbconbgipjaa
