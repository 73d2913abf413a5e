/- Fractional packings: the program's way and the reference's. -/
import Derived.Test.YtgehnacmgofobaaDoorCover2
namespace Go.Proofs.YtgehnacmgofobaaDoor
open Go.RowKit

def wAt (ws : List (Int × Int)) (v : Int) : Int × Int := ws.getD v.toNat (0, 1)
def pacW (ws : List (Int × Int)) (a : At) : List (Int × Int) := (avars 5 0 a.2).map (wAt ws)
def pacOk (ws : List (Int × Int)) (a : At) : Bool := match sumR (0, 1) (pacW ws a) with
  | none => false
  | some s => !decide (0 < cmpR s (1, 1))
def pacB (d : Qd) (ws : List (Int × Int)) : Bool := vqB d && (ws.all admR && decide ((ws.length : Int) = d.1)) && d.2.1.all (pacOk ws)
theorem pacOk_none {ws : List (Int × Int)} {a : At} (h : sumR (0, 1) (pacW ws a) = none) : pacOk ws a = false := by unfold pacOk; rw [h]
theorem pacOk_gt {ws : List (Int × Int)} {a : At} {s : Int × Int} (h : sumR (0, 1) (pacW ws a) = some s) (h2 : 0 < cmpR s (1, 1)) : pacOk ws a = false := by unfold pacOk; rw [h]; simp [h2]
theorem pacOk_le {ws : List (Int × Int)} {a : At} {s : Int × Int} (h : sumR (0, 1) (pacW ws a) = some s) (h2 : ¬ 0 < cmpR s (1, 1)) : pacOk ws a = true := by unfold pacOk; rw [h]; simp [h2]
theorem avars_cut : ∀ (f k n : Nat) (xs : List Int), n ≤ k + f → (∀ x ∈ xs, x < n) → avars f k xs = avars (n - k) k xs
  | 0, k, n, xs, h, _ => by rw [show n - k = 0 by omega]
  | f + 1, k, n, xs, h, hx => by
    by_cases hk : k < n
    · rw [show n - k = (n - (k + 1)) + 1 by omega]
      unfold avars
      rw [avars_cut f (k + 1) n xs (by omega) hx]
    · rw [show n - k = 0 by omega]
      have hn : (k : Int) ∉ xs := fun hm => by have := hx _ hm; omega
      unfold avars
      rw [if_neg hn, avars_cut f (k + 1) n xs (by omega) hx, show n - (k + 1) = 0 by omega]
      rfl
theorem av_mem : ∀ (f k : Nat) (xs : List Int) (n : Int), n ∈ avars f k xs → n ∈ xs
  | 0, _, _, _, h => by simp [avars] at h
  | f + 1, k, xs, n, h => by
    unfold avars at h
    split at h
    · rcases List.mem_cons.1 h with rfl | h
      · assumption
      · exact av_mem f (k + 1) xs n h
    · exact av_mem f (k + 1) xs n h
def pacI (n k : Nat) (ws : List (Int × Int)) (xs : List Int) : List (Int × Int) := (avars (n - k) k xs).map (wAt ws)
theorem pacI_in {n k : Nat} {ws : List (Int × Int)} {xs : List Int} (h : k < n) (hin : (k : Int) ∈ xs) (hw : k < ws.length) : pacI n k ws xs = ws[k] :: pacI n (k + 1) ws xs := by
  unfold pacI
  rw [show n - k = (n - (k + 1)) + 1 by omega, avars, if_pos hin, List.map_cons]
  simp [wAt, hw]
theorem pacI_out {n k : Nat} {ws : List (Int × Int)} {xs : List Int} (h : k < n) (hin : ¬ (k : Int) ∈ xs) : pacI n k ws xs = pacI n (k + 1) ws xs := by
  unfold pacI
  rw [show n - k = (n - (k + 1)) + 1 by omega, avars, if_neg hin]
theorem pacI_end {n k : Nat} {ws : List (Int × Int)} {xs : List Int} (h : ¬ k < n) : pacI n k ws xs = [] := by
  unfold pacI
  rw [show n - k = 0 by omega]
  rfl
theorem pacI_all {n : Nat} {ws : List (Int × Int)} {a : At} (h : n ≤ 5) (hx : ∀ x ∈ a.2, x < n) : pacI n 0 ws a.2 = pacW ws a := by
  unfold pacI pacW
  rw [avars_cut 5 0 n a.2 (by omega) hx]
theorem mapW_step {ws : List (Int × Int)} {vs : List Int} {j : Nat} (h : j < vs.length) (h2 : vs[j].toNat < ws.length) : (vs.drop j).map (wAt ws) = ws[vs[j].toNat] :: (vs.drop (j + 1)).map (wAt ws) := by
  rw [List.drop_eq_getElem_cons h, List.map_cons]
  simp [wAt, h2]
theorem vqB_vars {n : Nat} {ats : List At} {out : List Int} (h : vqB ((n : Int), ats, out) = true) : ∀ a ∈ ats, ∀ x ∈ a.2, 0 ≤ x ∧ x < n := by
  unfold vqB at h
  simp only [Bool.and_eq_true, List.all_eq_true] at h
  intro a ha x hx
  have h5 := h.1.2 a ha
  unfold atomB at h5
  simp only [Bool.and_eq_true, List.all_eq_true] at h5
  have := inB_t (h5.2 x hx)
  omega
set_option maxRecDepth 100000 in
set_option maxHeartbeats 8000000 in
theorem IsFractionalPacking_any {A B C : Option Addr} {c e1 g : Nat} {d : Qd} {xs : List (Int × Int)} {w : World} (hg : OneAt w) (hb : WQ d) (h : vQ w [.int .i64 d.1, .slice A d.2.1.length c, .slice B d.2.2.length e1] d) (hx : xs.length ≤ 1000000000) (hR : RR w C xs) :
    Calls Tryd.prog 14 #[.agg #[.int .i64 d.1, .slice A d.2.1.length c, .slice B d.2.2.length e1], .slice C xs.length g] w fun e w' => e = .returned (.bool (pacB d xs)) ∧ ∃ y, w' = ext w y := by
  obtain ⟨r1, r2, hcap⟩ := vQ_get h
  have HV := Lib.hid h
  have HQ := Lib.hid hb
  obtain ⟨hz, b1, b2⟩ := hb
  obtain ⟨z, ats, out⟩ := d
  dsimp only at r1 r2 hcap hz b1 b2 HV ⊢
  have r1 := (vAts_get r1).2
  have m2 : out.length ≤ 1000000000 := by omega
  have b4 := b1.1
  have Hx := Lib.hid b1.2
  clear h b1
  have HG := Lib.hid hg
  obtain ⟨t1, ht1⟩ : ∃ t, vqB (z, ats, out) = t := ⟨_, rfl⟩
  obtain ⟨t2, ht2⟩ : ∃ t, xs.all admR = t := ⟨_, rfl⟩
  have HT1 := Lib.hid ht1
  have HT2 := Lib.hid ht2
  have HE := Lib.hid (show pacB (z, ats, out) xs = (t1 && (t2 && decide ((xs.length : Int) = z)) && ats.all (pacOk xs)) by unfold pacB; rw [ht1, ht2])
  clear hg
  cases t1 with
  | false =>
    clear ht1 ht2
    go_enter Tryd.func14, Tryd.ntmps14
    go_upto_region 1 with fail
    refine wp_name ?_
    intro W hW
    have xW : ∃ y, W = ext w y := by rw [hW.out]; exact (by refine Chg.isExt (F := []) ?_ (refl_ext _) (by simp); repeat (with_reducible (first | exact Chg.refl _ _ | exact Nat.le_refl _ | exact Chg.ofExt (by assumption) | refine Chg.trans0 ?_ (by assumption) | refine Chg.extS ?_ _ | refine Chg.alloc ?_ _ | refine Chg.drew ?_ | refine Chg.setCellE ?_ ?_ _ | refine le_addk ?_ _ | refine le_ext ?_ | refine le_alloc ?_ _ | refine le_setC ?_ _ _ | refine le_drew ?_ | assumption | (refine Nat.le_of_lt ?_; omega) | omega)))
    have BW0 : BoxAt W (w.heap.size) #[.int .i64 z, .slice A ats.length c, .slice B out.length e1] := by rw [hW.out]; refine ⟨?_, fun j => ?_, fun j => ?_⟩ <;> go_simp
    obtain ⟨lW0, bW0, fW0⟩ := BW0
    have cW0_0 : W.cell? ⟨w.heap.size, 0, none⟩ = some (.int .i64 z) := bW0 0
    have cW0_1 : W.cell? ⟨w.heap.size, 1, none⟩ = some (.slice A ats.length c) := bW0 1
    have cW0_2 : W.cell? ⟨w.heap.size, 2, none⟩ = some (.slice B out.length e1) := bW0 2
    clear hW
    go_wp2_with (go_at_call 25; refine (IsValidQuery_w (d := (z, ats, out)) HQ.out (VD.toExt HV.out (by refine Chg.isExt (F := []) ?_ (refl_ext _) (by simp); repeat (with_reducible (first | exact Chg.refl _ _ | exact Nat.le_refl _ | exact Chg.ofExt (by assumption) | refine Chg.trans0 ?_ (by assumption) | refine Chg.extS ?_ _ | refine Chg.alloc ?_ _ | refine Chg.drew ?_ | refine Chg.setCellE ?_ ?_ _ | refine le_addk ?_ _ | refine le_ext ?_ | refine le_alloc ?_ _ | refine le_setC ?_ _ _ | refine le_drew ?_ | assumption | (refine Nat.le_of_lt ?_; omega) | omega))))).mono ?_; rintro e w1 ⟨rfl, hx1⟩; rw [HT1.out])
    go_ret
    exact ⟨by rw [HE.out]; rfl, (by refine Chg.isExt (F := []) ?_ (refl_ext _) (by simp); repeat (with_reducible (first | exact Chg.refl _ _ | exact Nat.le_refl _ | exact Chg.ofExt (by assumption) | refine Chg.trans0 ?_ (by assumption) | refine Chg.extS ?_ _ | refine Chg.alloc ?_ _ | refine Chg.drew ?_ | refine Chg.setCellE ?_ ?_ _ | refine le_addk ?_ _ | refine le_ext ?_ | refine le_alloc ?_ _ | refine le_setC ?_ _ _ | refine le_drew ?_ | assumption | (refine Nat.le_of_lt ?_; omega) | omega)))⟩
  | true =>
    have hz5 : 1 ≤ z ∧ z ≤ 5 := by
      unfold vqB at ht1
      simp only [Bool.and_eq_true] at ht1
      exact inB_t ht1.1.1.1.1
    obtain ⟨n, rfl⟩ : ∃ n : Nat, z = n := ⟨z.toNat, by omega⟩
    have hn5 : n ≤ 5 := by omega
    have ha4 : ats.length ≤ 4 := by
      unfold vqB at ht1
      simp only [Bool.and_eq_true] at ht1
      have := inB_t ht1.1.1.1.2
      omega
    have HVV := Lib.hid (vqB_vars ht1)
    clear ht1 ht2 hz5 hz
    by_cases hl : xs.length = n
    · have q1 : ((xs.length : Int) != (n : Int)) = false := by simp [hl]
      have hl1 : xs.length ≤ n := by omega
      have hl2 : n ≤ xs.length := by omega
      rw [decide_eq_true (show (xs.length : Int) = (n : Int) by omega)] at HE
      clear hl
      cases t2 with
      | false =>
        go_enter Tryd.func14, Tryd.ntmps14
        go_upto_region 1 with fail
        refine wp_name ?_
        intro W hW
        have xW : ∃ y, W = ext w y := by rw [hW.out]; exact (by refine Chg.isExt (F := []) ?_ (refl_ext _) (by simp); repeat (with_reducible (first | exact Chg.refl _ _ | exact Nat.le_refl _ | exact Chg.ofExt (by assumption) | refine Chg.trans0 ?_ (by assumption) | refine Chg.extS ?_ _ | refine Chg.alloc ?_ _ | refine Chg.drew ?_ | refine Chg.setCellE ?_ ?_ _ | refine le_addk ?_ _ | refine le_ext ?_ | refine le_alloc ?_ _ | refine le_setC ?_ _ _ | refine le_drew ?_ | assumption | (refine Nat.le_of_lt ?_; omega) | omega)))
        have BW0 : BoxAt W (w.heap.size) #[.int .i64 n, .slice A ats.length c, .slice B out.length e1] := by rw [hW.out]; refine ⟨?_, fun j => ?_, fun j => ?_⟩ <;> go_simp
        obtain ⟨lW0, bW0, fW0⟩ := BW0
        have cW0_0 : W.cell? ⟨w.heap.size, 0, none⟩ = some (.int .i64 n) := bW0 0
        have cW0_1 : W.cell? ⟨w.heap.size, 1, none⟩ = some (.slice A ats.length c) := bW0 1
        have cW0_2 : W.cell? ⟨w.heap.size, 2, none⟩ = some (.slice B out.length e1) := bW0 2
        clear hW
        have RW : BoxAt W w.heap.size #[.int .i64 n, .slice A ats.length c, .slice B out.length e1] := ⟨lW0, bW0, fW0⟩
        go_wp2_with (first
          | (go_at_call 25; refine (IsValidQuery_w (d := ((n : Int), ats, out)) HQ.out (VD.toExt HV.out (by refine Chg.isExt (F := []) ?_ (refl_ext _) (by simp); repeat (with_reducible (first | exact Chg.refl _ _ | exact Nat.le_refl _ | exact Chg.ofExt (by assumption) | refine Chg.trans0 ?_ (by assumption) | refine Chg.extS ?_ _ | refine Chg.alloc ?_ _ | refine Chg.drew ?_ | refine Chg.setCellE ?_ ?_ _ | refine le_addk ?_ _ | refine le_ext ?_ | refine le_alloc ?_ _ | refine le_setC ?_ _ _ | refine le_drew ?_ | assumption | (refine Nat.le_of_lt ?_; omega) | omega))))).mono ?_; rintro e w1 ⟨rfl, hx1⟩; rw [HT1.out]; obtain ⟨l1, k1, k1', k1'', f1⟩ := box3 (RW.toExt hx1))
          | (go_at_call 26; refine (admissible_any hx (hR.toExt (by refine Chg.isExt (F := []) ?_ (refl_ext _) (by simp); repeat (with_reducible (first | exact Chg.refl _ _ | exact Nat.le_refl _ | exact Chg.ofExt (by assumption) | refine Chg.trans0 ?_ (by assumption) | refine Chg.extS ?_ _ | refine Chg.alloc ?_ _ | refine Chg.drew ?_ | refine Chg.setCellE ?_ ?_ _ | refine le_addk ?_ _ | refine le_ext ?_ | refine le_alloc ?_ _ | refine le_setC ?_ _ _ | refine le_drew ?_ | assumption | (refine Nat.le_of_lt ?_; omega) | omega))))).mono ?_; rintro e w2 ⟨rfl, hx2⟩; rw [HT2.out]))
        go_ret
        exact ⟨by rw [HE.out]; rfl, (by refine Chg.isExt (F := []) ?_ (refl_ext _) (by simp); repeat (with_reducible (first | exact Chg.refl _ _ | exact Nat.le_refl _ | exact Chg.ofExt (by assumption) | refine Chg.trans0 ?_ (by assumption) | refine Chg.extS ?_ _ | refine Chg.alloc ?_ _ | refine Chg.drew ?_ | refine Chg.setCellE ?_ ?_ _ | refine le_addk ?_ _ | refine le_ext ?_ | refine le_alloc ?_ _ | refine le_setC ?_ _ _ | refine le_drew ?_ | assumption | (refine Nat.le_of_lt ?_; omega) | omega)))⟩
      | true =>
        go_enter Tryd.func14, Tryd.ntmps14
        go_upto_region 1 with fail
        refine wp_name ?_
        intro W hW
        have xW : ∃ y, W = ext w y := by rw [hW.out]; exact (by refine Chg.isExt (F := []) ?_ (refl_ext _) (by simp); repeat (with_reducible (first | exact Chg.refl _ _ | exact Nat.le_refl _ | exact Chg.ofExt (by assumption) | refine Chg.trans0 ?_ (by assumption) | refine Chg.extS ?_ _ | refine Chg.alloc ?_ _ | refine Chg.drew ?_ | refine Chg.setCellE ?_ ?_ _ | refine le_addk ?_ _ | refine le_ext ?_ | refine le_alloc ?_ _ | refine le_setC ?_ _ _ | refine le_drew ?_ | assumption | (refine Nat.le_of_lt ?_; omega) | omega)))
        have BW0 : BoxAt W (w.heap.size) #[.int .i64 n, .slice A ats.length c, .slice B out.length e1] := by rw [hW.out]; refine ⟨?_, fun j => ?_, fun j => ?_⟩ <;> go_simp
        obtain ⟨lW0, bW0, fW0⟩ := BW0
        have cW0_0 : W.cell? ⟨w.heap.size, 0, none⟩ = some (.int .i64 n) := bW0 0
        have cW0_1 : W.cell? ⟨w.heap.size, 1, none⟩ = some (.slice A ats.length c) := bW0 1
        have cW0_2 : W.cell? ⟨w.heap.size, 2, none⟩ = some (.slice B out.length e1) := bW0 2
        clear hW
        have RW : BoxAt W w.heap.size #[.int .i64 n, .slice A ats.length c, .slice B out.length e1] := ⟨lW0, bW0, fW0⟩
        have HRW := Lib.hid RW
        clear lW0 bW0 fW0 cW0_0 cW0_1 cW0_2 RW
        obtain ⟨l0, k0, k0', k0'', f0⟩ := box3 HRW.out
        go_wp2_with (first
          | (go_at_call 25; refine (IsValidQuery_w (d := ((n : Int), ats, out)) HQ.out (VD.toExt HV.out (by refine Chg.isExt (F := []) ?_ (refl_ext _) (by simp); repeat (with_reducible (first | exact Chg.refl _ _ | exact Nat.le_refl _ | exact Chg.ofExt (by assumption) | refine Chg.trans0 ?_ (by assumption) | refine Chg.extS ?_ _ | refine Chg.alloc ?_ _ | refine Chg.drew ?_ | refine Chg.setCellE ?_ ?_ _ | refine le_addk ?_ _ | refine le_ext ?_ | refine le_alloc ?_ _ | refine le_setC ?_ _ _ | refine le_drew ?_ | assumption | (refine Nat.le_of_lt ?_; omega) | omega))))).mono ?_; rintro e w1 ⟨rfl, hx1⟩; rw [HT1.out]; obtain ⟨l1, k1, k1', k1'', f1⟩ := box3 (HRW.out.toExt hx1))
          | (go_at_call 26; refine (admissible_any hx (hR.toExt (by refine Chg.isExt (F := []) ?_ (refl_ext _) (by simp); repeat (with_reducible (first | exact Chg.refl _ _ | exact Nat.le_refl _ | exact Chg.ofExt (by assumption) | refine Chg.trans0 ?_ (by assumption) | refine Chg.extS ?_ _ | refine Chg.alloc ?_ _ | refine Chg.drew ?_ | refine Chg.setCellE ?_ ?_ _ | refine le_addk ?_ _ | refine le_ext ?_ | refine le_alloc ?_ _ | refine le_setC ?_ _ _ | refine le_drew ?_ | assumption | (refine Nat.le_of_lt ?_; omega) | omega))))).mono ?_; rintro e w2 ⟨rfl, hx2⟩; rw [HT2.out]; obtain ⟨l2, k2, k2', k2'', f2⟩ := box3 (HRW.out.toExt (trans_ext hx1 hx2))))
        have x02 : ∃ y, w2 = ext W y := (by refine Chg.isExt (F := []) ?_ (refl_ext _) (by simp); repeat (with_reducible (first | exact Chg.refl _ _ | exact Nat.le_refl _ | exact Chg.ofExt (by assumption) | refine Chg.trans0 ?_ (by assumption) | refine Chg.extS ?_ _ | refine Chg.alloc ?_ _ | refine Chg.drew ?_ | refine Chg.setCellE ?_ ?_ _ | refine le_addk ?_ _ | refine le_ext ?_ | refine le_alloc ?_ _ | refine le_setC ?_ _ _ | refine le_drew ?_ | assumption | (refine Nat.le_of_lt ?_; omega) | omega)))
        clear l1 k1 k1' k1'' f1 l0 k0 k0' k0'' f0 l2 k2 k2' k2'' f2 q1
        have HE2 := Lib.hid (show pacB ((n : Int), ats, out) xs = ats.all (pacOk xs) by rw [HE.out]; simp)
        go_loopw [30] (fun i wr => ∃ k : Nat, i = .int .i64 k ∧ k ≤ ats.length ∧ (∃ y, wr = ext W y) ∧ Hid ((ats.drop k).all (pacOk xs) = ats.all (pacOk xs))) (fun i _ => ats.length - (intOf i).toNat)
        case atStart => exact ⟨0, rfl, by omega, x02, Lib.hid rfl⟩
        case round =>
          obtain ⟨k, rfl, hk, hy, Hk⟩ := hrel
          have hyw := trans_ext xW hy
          by_cases hlt : k < ats.length
          · obtain ⟨b, o, A', c', rfl, hbb, hc, hd, hv⟩ := (r1.toExt hyw).atA hlt
            have hle := (Hx.out ats[k] (List.getElem_mem hlt)).2
            have ek := Hk.out
            rw [allW_step hlt] at ek
            obtain ⟨a, ha⟩ : ∃ a, ats[k] = a := ⟨_, rfl⟩
            have HVA := Lib.hid (HVV.out ats[k] (List.getElem_mem hlt))
            rw [ha] at ek hc hd hle hv HVA
            obtain ⟨s, us⟩ := a
            dsimp only at hc hd hv hle HVA
            have HK := Lib.hid ek
            clear ek ha
            have hvx := hv.toExt (alloc_ext wr (.cells #[.string s, .slice A' us.length c'] 45))
            have hvl := avars_length 5 0 us
            obtain ⟨vs, hvs⟩ : ∃ vs, avars 5 0 us = vs := ⟨_, rfl⟩
            rw [hvs] at hvl
            have HVS := Lib.hid hvs
            have HVM := Lib.hid (show ∀ v ∈ vs, 0 ≤ v ∧ v < n by intro v hv; rw [← hvs] at hv; exact HVA.out v (av_mem 5 0 us v hv))
            clear hvs
            go_wp2_with (go_at_call 33; refine (AtomVariables_any (by omega) hvx).mono ?_; rintro e w4 ⟨v4, F4, rfl, hx4, hS4, hF4⟩; rw [HVS.out] at hS4; obtain ⟨A4, c4, rfl, _, _, r4⟩ := hS4.view sI_v; clear hS4 hF4)
            have hxr4 : ∃ y, w4 = ext wr y := trans_ext (alloc_ext _ _) hx4
            have hy4 := trans_ext hy hxr4
            clear hv
            go_loopw [7, 37] (fun v i vs' => ∃ (j : Nat) (acc : List (Int × Int)) (F : List Nat), i = .int .i64 j ∧ j ≤ vs.length ∧ SV 47 2 sR vs' v acc F ∧ (∀ b ∈ F, w4.heap.size ≤ b) ∧ (∃ y, vs' = ext w4 y) ∧ acc.length ≤ j ∧ Hid (acc ++ (vs.drop j).map (wAt xs) = vs.map (wAt xs))) (fun _ i _ => vs.length - (intOf i).toNat)
            case atStart => exact ⟨0, [], [], rfl, by omega, SV.nil, by simp, refl_ext _, by simp, Lib.hid rfl⟩
            case round =>
              obtain ⟨j, acc, F, rfl, hj, hS, hF, hy2, hal, Hj⟩ := hrel
              have hyw2 := trans_ext xW (trans_ext hy4 hy2)
              have HS := Lib.hid hS
              have HF := Lib.hid hF
              clear hF
              by_cases hjl : j < vs.length
              · obtain ⟨b5, o5, rfl, hb5, hc5⟩ := (r4.toExt hy2).atI hjl
                have hm5 := HVM.out vs[j] (List.getElem_mem hjl)
                have ej := Hj.out
                rw [mapW_step hjl (by omega)] at ej
                obtain ⟨v5, hv5⟩ : ∃ v, vs[j] = v := ⟨_, rfl⟩
                have HJ := Lib.hid ej
                clear ej
                rw [hv5] at hm5 hc5
                have HV5 := Lib.hid hv5
                clear hv5
                obtain ⟨m, rfl⟩ : ∃ m : Nat, v5 = m := ⟨v5.toNat, by omega⟩
                have hmx : m < xs.length := by omega
                obtain ⟨bw, ow, rfl, hbw, hcw, hdw⟩ := (hR.toExt hyw2).atR hmx
                obtain ⟨x, hx9⟩ : ∃ x, xs[m] = x := ⟨_, rfl⟩
                rw [hx9] at hcw hdw
                have HJ2 := Lib.hid (show acc ++ x :: (vs.drop (j + 1)).map (wAt xs) = vs.map (wAt xs) by
                  rw [← HJ.out, ← hx9]
                  congr 3
                  rw [HV5.out]; omega)
                obtain ⟨Ac, cc, rfl, _, _⟩ := hS.form
                clear hx9 hS
                go_wp2_with (at_builtin; refine wpList_app1 (E := sR) (d := x) rfl _ _ _ rfl tR rfl rfl rfl (by simp) (fun _ => ⟨rfl, rfl⟩) rfl (by simp [Value.oneCell']) HS.out (by omega) (by omega) ?_; intro v' w' F' hS' hC' hF')
                exact ⟨⟨j + 1, acc ++ [x], F', by go_num, by omega, hS', newer HF.out (size_of_ext hy2) hF', hC'.isExt hy2 HF.out, by simp; omega, Lib.hid (by rw [← HJ2.out]; simp)⟩, by simp [intOf]; omega⟩
              · have ej := Hj.out
                rw [List.drop_eq_nil_of_le (by omega), List.map_nil, List.append_nil] at ej
                obtain ⟨A9, c9, rfl, _, _, r9⟩ := HS.out.view sR_v
                obtain ⟨o9, ho9⟩ : ∃ o, sumR (0, 1) acc = o := ⟨_, rfl⟩
                have HO := Lib.hid ho9
                have HSEL := Lib.hid (show sumR (0, 1) (pacW xs (s, us)) = o9 by unfold pacW; rw [HVS.out, ← ej]; exact ho9)
                have hacc : acc.length ≤ 1000000000 := by omega
                clear ej ho9 hS
                cases o9 with
                | none =>
                  have HE3 := Lib.hid (show pacB ((n : Int), ats, out) xs = false by rw [HE2.out, ← HK.out]; rw [pacOk_none HSEL.out]; rfl)
                  go_wp2_with (go_at_call 28; refine (SumRationals_any hacc r9).mono ?_; rintro e w7 ⟨rfl, hx7⟩; rw [HO.out]; obtain ⟨g0, g1, g2⟩ := HG.out.toExt (trans_ext hyw2 hx7))
                  go_ret
                  exact ⟨by rw [HE3.out]; rfl, (by refine Chg.isExt (F := []) ?_ (refl_ext _) (by simp); repeat (with_reducible (first | exact Chg.refl _ _ | exact Nat.le_refl _ | exact Chg.ofExt (by assumption) | refine Chg.trans0 ?_ (by assumption) | refine Chg.extS ?_ _ | refine Chg.alloc ?_ _ | refine Chg.drew ?_ | refine Chg.setCellE ?_ ?_ _ | refine le_addk ?_ _ | refine le_ext ?_ | refine le_alloc ?_ _ | refine le_setC ?_ _ _ | refine le_drew ?_ | assumption | (refine Nat.le_of_lt ?_; omega) | omega)))⟩
                | some s9 =>
                  obtain ⟨s1, s2⟩ := s9
                  by_cases hneg : 0 < cmpR (s1, s2) (1, 1)
                  · have HE3 := Lib.hid (show pacB ((n : Int), ats, out) xs = false by rw [HE2.out, ← HK.out]; rw [pacOk_gt HSEL.out hneg]; rfl)
                    obtain ⟨v, hv⟩ : ∃ v, cmpR (s1, s2) (1, 1) = v := ⟨_, rfl⟩
                    have HV9 := Lib.hid hv
                    rw [hv] at hneg
                    clear hv
                    go_wp2_with (first
                      | (go_at_call 28; refine (SumRationals_any hacc r9).mono ?_; rintro e w7 ⟨rfl, hx7⟩; rw [HO.out]; obtain ⟨g0, g1, g2⟩ := HG.out.toExt (trans_ext hyw2 hx7))
                      | (go_at_call 29; refine CompareRationals_any.mono ?_; rintro e w8 ⟨rfl, hx8⟩; rw [HV9.out]))
                    go_ret
                    exact ⟨by rw [HE3.out]; rfl, (by refine Chg.isExt (F := []) ?_ (refl_ext _) (by simp); repeat (with_reducible (first | exact Chg.refl _ _ | exact Nat.le_refl _ | exact Chg.ofExt (by assumption) | refine Chg.trans0 ?_ (by assumption) | refine Chg.extS ?_ _ | refine Chg.alloc ?_ _ | refine Chg.drew ?_ | refine Chg.setCellE ?_ ?_ _ | refine le_addk ?_ _ | refine le_ext ?_ | refine le_alloc ?_ _ | refine le_setC ?_ _ _ | refine le_drew ?_ | assumption | (refine Nat.le_of_lt ?_; omega) | omega)))⟩
                  · have HK2 := Lib.hid (show (ats.drop (k + 1)).all (pacOk xs) = ats.all (pacOk xs) by rw [← HK.out, pacOk_le HSEL.out hneg]; rfl)
                    obtain ⟨v, hv⟩ : ∃ v, cmpR (s1, s2) (1, 1) = v := ⟨_, rfl⟩
                    have HV9 := Lib.hid hv
                    rw [hv] at hneg
                    have hneg2 : v ≤ 0 := by omega
                    clear hv
                    go_wp2_with (first
                      | (go_at_call 28; refine (SumRationals_any hacc r9).mono ?_; rintro e w7 ⟨rfl, hx7⟩; rw [HO.out]; obtain ⟨g0, g1, g2⟩ := HG.out.toExt (trans_ext hyw2 hx7))
                      | (go_at_call 29; refine CompareRationals_any.mono ?_; rintro e w8 ⟨rfl, hx8⟩; rw [HV9.out]))
                    exact ⟨⟨k + 1, by go_num, by omega, trans_ext hy4 (trans_ext hy2 (by refine Chg.isExt (F := []) ?_ (refl_ext _) (by simp); repeat (with_reducible (first | exact Chg.refl _ _ | exact Nat.le_refl _ | exact Chg.ofExt (by assumption) | refine Chg.trans0 ?_ (by assumption) | refine Chg.extS ?_ _ | refine Chg.alloc ?_ _ | refine Chg.drew ?_ | refine Chg.setCellE ?_ ?_ _ | refine le_addk ?_ _ | refine le_ext ?_ | refine le_alloc ?_ _ | refine le_setC ?_ _ _ | refine le_drew ?_ | assumption | (refine Nat.le_of_lt ?_; omega) | omega)))), HK2⟩, by simp [intOf]; omega⟩
          · have ek := Hk.out
            rw [allW_end hlt] at ek
            have HK := Lib.hid ek
            clear ek
            go_wp2
            go_ret
            exact ⟨by rw [HE2.out, ← HK.out]; rfl, hyw⟩
    · have q1 : ((xs.length : Int) != (n : Int)) = true := by rw [bne_iff_ne]; omega
      rw [decide_eq_false (show ¬ (xs.length : Int) = (n : Int) by omega)] at HE
      clear hl
      go_enter Tryd.func14, Tryd.ntmps14
      go_upto_region 1 with fail
      refine wp_name ?_
      intro W hW
      have xW : ∃ y, W = ext w y := by rw [hW.out]; exact (by refine Chg.isExt (F := []) ?_ (refl_ext _) (by simp); repeat (with_reducible (first | exact Chg.refl _ _ | exact Nat.le_refl _ | exact Chg.ofExt (by assumption) | refine Chg.trans0 ?_ (by assumption) | refine Chg.extS ?_ _ | refine Chg.alloc ?_ _ | refine Chg.drew ?_ | refine Chg.setCellE ?_ ?_ _ | refine le_addk ?_ _ | refine le_ext ?_ | refine le_alloc ?_ _ | refine le_setC ?_ _ _ | refine le_drew ?_ | assumption | (refine Nat.le_of_lt ?_; omega) | omega)))
      have BW0 : BoxAt W (w.heap.size) #[.int .i64 n, .slice A ats.length c, .slice B out.length e1] := by rw [hW.out]; refine ⟨?_, fun j => ?_, fun j => ?_⟩ <;> go_simp
      obtain ⟨lW0, bW0, fW0⟩ := BW0
      have cW0_0 : W.cell? ⟨w.heap.size, 0, none⟩ = some (.int .i64 n) := bW0 0
      have cW0_1 : W.cell? ⟨w.heap.size, 1, none⟩ = some (.slice A ats.length c) := bW0 1
      have cW0_2 : W.cell? ⟨w.heap.size, 2, none⟩ = some (.slice B out.length e1) := bW0 2
      clear hW
      have RW : BoxAt W w.heap.size #[.int .i64 n, .slice A ats.length c, .slice B out.length e1] := ⟨lW0, bW0, fW0⟩
      go_wp2_with (go_at_call 25; refine (IsValidQuery_w (d := ((n : Int), ats, out)) HQ.out (VD.toExt HV.out (by refine Chg.isExt (F := []) ?_ (refl_ext _) (by simp); repeat (with_reducible (first | exact Chg.refl _ _ | exact Nat.le_refl _ | exact Chg.ofExt (by assumption) | refine Chg.trans0 ?_ (by assumption) | refine Chg.extS ?_ _ | refine Chg.alloc ?_ _ | refine Chg.drew ?_ | refine Chg.setCellE ?_ ?_ _ | refine le_addk ?_ _ | refine le_ext ?_ | refine le_alloc ?_ _ | refine le_setC ?_ _ _ | refine le_drew ?_ | assumption | (refine Nat.le_of_lt ?_; omega) | omega))))).mono ?_; rintro e w1 ⟨rfl, hx1⟩; rw [HT1.out]; obtain ⟨l1, k1, k1', k1'', f1⟩ := box3 (RW.toExt hx1))
      go_ret
      exact ⟨by rw [HE.out]; simp, (by refine Chg.isExt (F := []) ?_ (refl_ext _) (by simp); repeat (with_reducible (first | exact Chg.refl _ _ | exact Nat.le_refl _ | exact Chg.ofExt (by assumption) | refine Chg.trans0 ?_ (by assumption) | refine Chg.extS ?_ _ | refine Chg.alloc ?_ _ | refine Chg.drew ?_ | refine Chg.setCellE ?_ ?_ _ | refine le_addk ?_ _ | refine le_ext ?_ | refine le_alloc ?_ _ | refine le_setC ?_ _ _ | refine le_drew ?_ | assumption | (refine Nat.le_of_lt ?_; omega) | omega)))⟩
set_option maxRecDepth 100000 in
set_option maxHeartbeats 8000000 in
theorem specIsFractionalPacking_any {A B C : Option Addr} {c e1 g : Nat} {d : Qd} {xs : List (Int × Int)} {w : World} (hb : WQ d) (h : vQ w [.int .i64 d.1, .slice A d.2.1.length c, .slice B d.2.2.length e1] d) (hx : xs.length ≤ 1000000000) (hR : RR w C xs) :
    Calls Tryd.prog 13 #[.agg #[.int .i64 d.1, .slice A d.2.1.length c, .slice B d.2.2.length e1], .slice C xs.length g] w fun e w' => e = .returned (.bool (pacB d xs)) ∧ ∃ y, w' = ext w y := by
  obtain ⟨r1, r2, hcap⟩ := vQ_get h
  have HV := Lib.hid h
  have HQ := Lib.hid hb
  obtain ⟨hz, b1, b2⟩ := hb
  obtain ⟨z, ats, out⟩ := d
  dsimp only at r1 r2 hcap hz b1 b2 HV ⊢
  have r1 := (vAts_get r1).2
  have m2 : out.length ≤ 1000000000 := by omega
  have b4 := b1.1
  have Hx := Lib.hid b1.2
  clear h b1
  obtain ⟨t1, ht1⟩ : ∃ t, vqB (z, ats, out) = t := ⟨_, rfl⟩
  obtain ⟨t2, ht2⟩ : ∃ t, xs.all admR = t := ⟨_, rfl⟩
  have HT1 := Lib.hid ht1
  have HT2 := Lib.hid ht2
  have HE := Lib.hid (show pacB (z, ats, out) xs = (t1 && (t2 && decide ((xs.length : Int) = z)) && ats.all (pacOk xs)) by unfold pacB; rw [ht1, ht2])
  cases t1 with
  | false =>
    clear ht1 ht2
    go_enter Tryd.func13, Tryd.ntmps13
    go_upto_region 1 with fail
    refine wp_name ?_
    intro W hW
    have xW : ∃ y, W = ext w y := by rw [hW.out]; exact (by refine Chg.isExt (F := []) ?_ (refl_ext _) (by simp); repeat (with_reducible (first | exact Chg.refl _ _ | exact Nat.le_refl _ | exact Chg.ofExt (by assumption) | refine Chg.trans0 ?_ (by assumption) | refine Chg.extS ?_ _ | refine Chg.alloc ?_ _ | refine Chg.drew ?_ | refine Chg.setCellE ?_ ?_ _ | refine le_addk ?_ _ | refine le_ext ?_ | refine le_alloc ?_ _ | refine le_setC ?_ _ _ | refine le_drew ?_ | assumption | (refine Nat.le_of_lt ?_; omega) | omega)))
    have BW0 : BoxAt W (w.heap.size) #[.int .i64 z, .slice A ats.length c, .slice B out.length e1] := by rw [hW.out]; refine ⟨?_, fun j => ?_, fun j => ?_⟩ <;> go_simp
    obtain ⟨lW0, bW0, fW0⟩ := BW0
    have cW0_0 : W.cell? ⟨w.heap.size, 0, none⟩ = some (.int .i64 z) := bW0 0
    have cW0_1 : W.cell? ⟨w.heap.size, 1, none⟩ = some (.slice A ats.length c) := bW0 1
    have cW0_2 : W.cell? ⟨w.heap.size, 2, none⟩ = some (.slice B out.length e1) := bW0 2
    clear hW
    go_wp2_with (go_at_call 17; refine (specIsValidQuery_w (d := (z, ats, out)) HQ.out (VD.toExt HV.out (by refine Chg.isExt (F := []) ?_ (refl_ext _) (by simp); repeat (with_reducible (first | exact Chg.refl _ _ | exact Nat.le_refl _ | exact Chg.ofExt (by assumption) | refine Chg.trans0 ?_ (by assumption) | refine Chg.extS ?_ _ | refine Chg.alloc ?_ _ | refine Chg.drew ?_ | refine Chg.setCellE ?_ ?_ _ | refine le_addk ?_ _ | refine le_ext ?_ | refine le_alloc ?_ _ | refine le_setC ?_ _ _ | refine le_drew ?_ | assumption | (refine Nat.le_of_lt ?_; omega) | omega))))).mono ?_; rintro e w1 ⟨rfl, hx1⟩; rw [HT1.out])
    go_ret
    exact ⟨by rw [HE.out]; rfl, (by refine Chg.isExt (F := []) ?_ (refl_ext _) (by simp); repeat (with_reducible (first | exact Chg.refl _ _ | exact Nat.le_refl _ | exact Chg.ofExt (by assumption) | refine Chg.trans0 ?_ (by assumption) | refine Chg.extS ?_ _ | refine Chg.alloc ?_ _ | refine Chg.drew ?_ | refine Chg.setCellE ?_ ?_ _ | refine le_addk ?_ _ | refine le_ext ?_ | refine le_alloc ?_ _ | refine le_setC ?_ _ _ | refine le_drew ?_ | assumption | (refine Nat.le_of_lt ?_; omega) | omega)))⟩
  | true =>
    have hz5 : 1 ≤ z ∧ z ≤ 5 := by
      unfold vqB at ht1
      simp only [Bool.and_eq_true] at ht1
      exact inB_t ht1.1.1.1.1
    obtain ⟨n, rfl⟩ : ∃ n : Nat, z = n := ⟨z.toNat, by omega⟩
    have hn5 : n ≤ 5 := by omega
    have ha4 : ats.length ≤ 4 := by
      unfold vqB at ht1
      simp only [Bool.and_eq_true] at ht1
      have := inB_t ht1.1.1.1.2
      omega
    have HVV := Lib.hid (vqB_vars ht1)
    clear ht1 ht2 hz5 hz
    have hdl : decide ((xs.length : Int) = (n : Int)) = decide (xs.length = n) := by rw [Bool.eq_iff_iff]; simp; omega
    rw [hdl] at HE
    clear hdl
    by_cases hl : xs.length = n
    · have HL9 := Lib.hid (decide_eq_true hl)
      have hl1 : xs.length ≤ n := by omega
      have hl2 : n ≤ xs.length := by omega
      rw [decide_eq_true hl] at HE
      clear hl
      cases t2 with
      | false =>
        go_enter Tryd.func13, Tryd.ntmps13
        go_upto_region 1 with fail
        refine wp_name ?_
        intro W hW
        have xW : ∃ y, W = ext w y := by rw [hW.out]; exact (by refine Chg.isExt (F := []) ?_ (refl_ext _) (by simp); repeat (with_reducible (first | exact Chg.refl _ _ | exact Nat.le_refl _ | exact Chg.ofExt (by assumption) | refine Chg.trans0 ?_ (by assumption) | refine Chg.extS ?_ _ | refine Chg.alloc ?_ _ | refine Chg.drew ?_ | refine Chg.setCellE ?_ ?_ _ | refine le_addk ?_ _ | refine le_ext ?_ | refine le_alloc ?_ _ | refine le_setC ?_ _ _ | refine le_drew ?_ | assumption | (refine Nat.le_of_lt ?_; omega) | omega)))
        have BW0 : BoxAt W (w.heap.size) #[.int .i64 n, .slice A ats.length c, .slice B out.length e1] := by rw [hW.out]; refine ⟨?_, fun j => ?_, fun j => ?_⟩ <;> go_simp
        obtain ⟨lW0, bW0, fW0⟩ := BW0
        have cW0_0 : W.cell? ⟨w.heap.size, 0, none⟩ = some (.int .i64 n) := bW0 0
        have cW0_1 : W.cell? ⟨w.heap.size, 1, none⟩ = some (.slice A ats.length c) := bW0 1
        have cW0_2 : W.cell? ⟨w.heap.size, 2, none⟩ = some (.slice B out.length e1) := bW0 2
        clear hW
        have RW : BoxAt W w.heap.size #[.int .i64 n, .slice A ats.length c, .slice B out.length e1] := ⟨lW0, bW0, fW0⟩
        go_wp2_with (first
          | (go_at_call 17; refine (specIsValidQuery_w (d := ((n : Int), ats, out)) HQ.out (VD.toExt HV.out (by refine Chg.isExt (F := []) ?_ (refl_ext _) (by simp); repeat (with_reducible (first | exact Chg.refl _ _ | exact Nat.le_refl _ | exact Chg.ofExt (by assumption) | refine Chg.trans0 ?_ (by assumption) | refine Chg.extS ?_ _ | refine Chg.alloc ?_ _ | refine Chg.drew ?_ | refine Chg.setCellE ?_ ?_ _ | refine le_addk ?_ _ | refine le_ext ?_ | refine le_alloc ?_ _ | refine le_setC ?_ _ _ | refine le_drew ?_ | assumption | (refine Nat.le_of_lt ?_; omega) | omega))))).mono ?_; rintro e w1 ⟨rfl, hx1⟩; rw [HT1.out]; obtain ⟨l1, k1, k1', k1'', f1⟩ := box3 (RW.toExt hx1))
          | (go_at_call 18; refine (l12Small_any (n := n) hx (by omega) (hR.toExt (by refine Chg.isExt (F := []) ?_ (refl_ext _) (by simp); repeat (with_reducible (first | exact Chg.refl _ _ | exact Nat.le_refl _ | exact Chg.ofExt (by assumption) | refine Chg.trans0 ?_ (by assumption) | refine Chg.extS ?_ _ | refine Chg.alloc ?_ _ | refine Chg.drew ?_ | refine Chg.setCellE ?_ ?_ _ | refine le_addk ?_ _ | refine le_ext ?_ | refine le_alloc ?_ _ | refine le_setC ?_ _ _ | refine le_drew ?_ | assumption | (refine Nat.le_of_lt ?_; omega) | omega))))).mono ?_; rintro e w2 ⟨rfl, hx2⟩; rw [HT2.out, HL9.out]))
        go_ret
        exact ⟨by rw [HE.out]; rfl, (by refine Chg.isExt (F := []) ?_ (refl_ext _) (by simp); repeat (with_reducible (first | exact Chg.refl _ _ | exact Nat.le_refl _ | exact Chg.ofExt (by assumption) | refine Chg.trans0 ?_ (by assumption) | refine Chg.extS ?_ _ | refine Chg.alloc ?_ _ | refine Chg.drew ?_ | refine Chg.setCellE ?_ ?_ _ | refine le_addk ?_ _ | refine le_ext ?_ | refine le_alloc ?_ _ | refine le_setC ?_ _ _ | refine le_drew ?_ | assumption | (refine Nat.le_of_lt ?_; omega) | omega)))⟩
      | true =>
        go_enter Tryd.func13, Tryd.ntmps13
        go_upto_region 1 with fail
        refine wp_name ?_
        intro W hW
        have xW : ∃ y, W = ext w y := by rw [hW.out]; exact (by refine Chg.isExt (F := []) ?_ (refl_ext _) (by simp); repeat (with_reducible (first | exact Chg.refl _ _ | exact Nat.le_refl _ | exact Chg.ofExt (by assumption) | refine Chg.trans0 ?_ (by assumption) | refine Chg.extS ?_ _ | refine Chg.alloc ?_ _ | refine Chg.drew ?_ | refine Chg.setCellE ?_ ?_ _ | refine le_addk ?_ _ | refine le_ext ?_ | refine le_alloc ?_ _ | refine le_setC ?_ _ _ | refine le_drew ?_ | assumption | (refine Nat.le_of_lt ?_; omega) | omega)))
        have BW0 : BoxAt W (w.heap.size) #[.int .i64 n, .slice A ats.length c, .slice B out.length e1] := by rw [hW.out]; refine ⟨?_, fun j => ?_, fun j => ?_⟩ <;> go_simp
        obtain ⟨lW0, bW0, fW0⟩ := BW0
        have cW0_0 : W.cell? ⟨w.heap.size, 0, none⟩ = some (.int .i64 n) := bW0 0
        have cW0_1 : W.cell? ⟨w.heap.size, 1, none⟩ = some (.slice A ats.length c) := bW0 1
        have cW0_2 : W.cell? ⟨w.heap.size, 2, none⟩ = some (.slice B out.length e1) := bW0 2
        clear hW
        have RW : BoxAt W w.heap.size #[.int .i64 n, .slice A ats.length c, .slice B out.length e1] := ⟨lW0, bW0, fW0⟩
        have HRW := Lib.hid RW
        clear lW0 bW0 fW0 cW0_0 cW0_1 cW0_2 RW
        obtain ⟨l0, k0, k0', k0'', f0⟩ := box3 HRW.out
        go_wp2_with (first
          | (go_at_call 17; refine (specIsValidQuery_w (d := ((n : Int), ats, out)) HQ.out (VD.toExt HV.out (by refine Chg.isExt (F := []) ?_ (refl_ext _) (by simp); repeat (with_reducible (first | exact Chg.refl _ _ | exact Nat.le_refl _ | exact Chg.ofExt (by assumption) | refine Chg.trans0 ?_ (by assumption) | refine Chg.extS ?_ _ | refine Chg.alloc ?_ _ | refine Chg.drew ?_ | refine Chg.setCellE ?_ ?_ _ | refine le_addk ?_ _ | refine le_ext ?_ | refine le_alloc ?_ _ | refine le_setC ?_ _ _ | refine le_drew ?_ | assumption | (refine Nat.le_of_lt ?_; omega) | omega))))).mono ?_; rintro e w1 ⟨rfl, hx1⟩; rw [HT1.out]; obtain ⟨l1, k1, k1', k1'', f1⟩ := box3 (HRW.out.toExt hx1))
          | (go_at_call 18; refine (l12Small_any (n := n) hx (by omega) (hR.toExt (by refine Chg.isExt (F := []) ?_ (refl_ext _) (by simp); repeat (with_reducible (first | exact Chg.refl _ _ | exact Nat.le_refl _ | exact Chg.ofExt (by assumption) | refine Chg.trans0 ?_ (by assumption) | refine Chg.extS ?_ _ | refine Chg.alloc ?_ _ | refine Chg.drew ?_ | refine Chg.setCellE ?_ ?_ _ | refine le_addk ?_ _ | refine le_ext ?_ | refine le_alloc ?_ _ | refine le_setC ?_ _ _ | refine le_drew ?_ | assumption | (refine Nat.le_of_lt ?_; omega) | omega))))).mono ?_; rintro e w2 ⟨rfl, hx2⟩; rw [HT2.out, HL9.out]))
        have x02 : ∃ y, w2 = ext W y := (by refine Chg.isExt (F := []) ?_ (refl_ext _) (by simp); repeat (with_reducible (first | exact Chg.refl _ _ | exact Nat.le_refl _ | exact Chg.ofExt (by assumption) | refine Chg.trans0 ?_ (by assumption) | refine Chg.extS ?_ _ | refine Chg.alloc ?_ _ | refine Chg.drew ?_ | refine Chg.setCellE ?_ ?_ _ | refine le_addk ?_ _ | refine le_ext ?_ | refine le_alloc ?_ _ | refine le_setC ?_ _ _ | refine le_drew ?_ | assumption | (refine Nat.le_of_lt ?_; omega) | omega)))
        clear l1 k1 k1' k1'' f1 l0 k0 k0' k0'' f0
        have HE2 := Lib.hid (show pacB ((n : Int), ats, out) xs = ats.all (pacOk xs) by rw [HE.out]; simp)
        go_loopw [5] (fun i wr => ∃ k : Nat, i = .int .i64 k ∧ k ≤ ats.length ∧ (∃ y, wr = ext W y) ∧ Hid ((ats.drop k).all (pacOk xs) = ats.all (pacOk xs))) (fun i _ => ats.length - (intOf i).toNat)
        case atStart => exact ⟨0, rfl, by omega, x02, Lib.hid rfl⟩
        case round =>
          obtain ⟨k, rfl, hk, hy, Hk⟩ := hrel
          obtain ⟨lr, kr, kr', kr'', fr⟩ := box3 (HRW.out.toExt hy)
          have hyw := trans_ext xW hy
          by_cases hlt : k < ats.length
          · have ek := Hk.out
            rw [allW_step hlt] at ek
            have HK := Lib.hid ek
            have HVA := Lib.hid (show ∀ x ∈ ats[k].2, x < (n : Int) from fun x h => (HVV.out ats[k] (List.getElem_mem hlt) x h).2)
            have hle := (Hx.out ats[k] (List.getElem_mem hlt)).2
            clear ek
            go_wp2_with fail
            go_loopw [6, 7] (fun v i vs => ∃ (j : Nat) (acc : List (Int × Int)) (F : List Nat), i = .int .i64 j ∧ j ≤ n ∧ SV 47 2 sR vs v acc F ∧ (∀ b ∈ F, W.heap.size ≤ b) ∧ (∃ y, vs = ext W y) ∧ acc.length ≤ j ∧ Hid (acc ++ pacI n j xs ats[k].2 = pacI n 0 xs ats[k].2)) (fun _ i _ => n - (intOf i).toNat)
            case atStart => exact ⟨0, [], [wr.heap.size], rfl, by omega, SV.empty wr, fun b hb => by rw [List.mem_singleton.1 hb]; exact size_of_ext hy, trans_ext hy (alloc_ext _ _), by simp, Lib.hid rfl⟩
            case round =>
              clear lr kr kr' kr'' fr
              obtain ⟨j, acc, F, rfl, hj, hS, hF, hy2, hal, Hj⟩ := hrel
              have hyw2 := trans_ext xW hy2
              obtain ⟨lq, kq, kq', kq'', fq⟩ := box3 (HRW.out.toExt hy2)
              have HS := Lib.hid hS
              have HF := Lib.hid hF
              clear hF
              by_cases hjl : j < n
              · have hjx : j < xs.length := by omega
                obtain ⟨b, o, A', c', rfl, hbb, hc, hd, hv⟩ := (r1.toExt hyw2).atA hlt
                obtain ⟨bw, ow, rfl, hbw, hcw, hdw⟩ := (hR.toExt hyw2).atR hjx
                have hvx := hv
                by_cases hin : (j : Int) ∈ ats[k].2
                · have ej := Hj.out
                  rw [pacI_in hjl hin hjx] at ej
                  have HIN := Lib.hid (decide_eq_true hin)
                  have HJ := Lib.hid ej
                  obtain ⟨x, hx9⟩ : ∃ x, xs[j] = x := ⟨_, rfl⟩
                  rw [hx9] at hcw hdw
                  have HX9 := Lib.hid hx9
                  obtain ⟨Ac, cc, rfl, _, _⟩ := hS.form
                  clear ej hin hx9 hS
                  go_wp2_with (first
                    | (go_at_call 19; refine (specContains_any (by omega) hvx).mono ?_; rintro e w5 ⟨rfl, hx5⟩; rw [HIN.out]; have hxr5 : ∃ y, w5 = ext wr y := hx5; obtain ⟨hcw5, hbw5⟩ := cellE hxr5 hbw hcw; obtain ⟨hdw5, _⟩ := cellE hxr5 hbw hdw)
                    | (at_builtin; refine wpList_app1 (E := sR) (d := x) rfl _ _ _ rfl tR rfl rfl rfl (by simp) (fun _ => ⟨rfl, rfl⟩) rfl (by simp [Value.oneCell']) (HS.out.toExt hxr5) (by omega) (by omega) ?_; intro v' w' F' hS' hC' hF'))
                  exact ⟨⟨j + 1, acc ++ [x], F', by go_num, by omega, hS', newer HF.out (size_of_ext (trans_ext hy2 hxr5)) hF', hC'.isExt (trans_ext hy2 hxr5) HF.out, by simp; omega, Lib.hid (by rw [← HJ.out, HX9.out]; simp)⟩, by simp [intOf]; omega⟩
                · have ej := Hj.out
                  rw [pacI_out hjl hin] at ej
                  have HIN := Lib.hid (decide_eq_false hin)
                  have HJ := Lib.hid ej
                  clear ej hin hS
                  go_wp2_with (first
                    | (go_at_call 19; refine (specContains_any (by omega) hvx).mono ?_; rintro e w5 ⟨rfl, hx5⟩; rw [HIN.out]; have hxr5 : ∃ y, w5 = ext wr y := hx5))
                  exact ⟨⟨j + 1, acc, F, by go_num, by omega, HS.out.toExt hxr5, HF.out, trans_ext hy2 hxr5, by omega, Lib.hid HJ.out⟩, by simp [intOf]; omega⟩
              · have ej := Hj.out
                rw [pacI_end hjl, List.append_nil, pacI_all hn5 HVA.out] at ej
                obtain ⟨A9, c9, rfl, _, _, r9⟩ := HS.out.view sR_v
                obtain ⟨o9, ho9⟩ : ∃ o, sumR (0, 1) acc = o := ⟨_, rfl⟩
                have HO := Lib.hid ho9
                have HSEL := Lib.hid (show sumR (0, 1) (pacW xs ats[k]) = o9 by rw [← ej]; exact ho9)
                have hacc : acc.length ≤ 1000000000 := by omega
                clear ej ho9 hS
                cases o9 with
                | none =>
                  have HE3 := Lib.hid (show pacB ((n : Int), ats, out) xs = false by rw [HE2.out, ← HK.out]; rw [pacOk_none HSEL.out]; rfl)
                  go_wp2_with (go_at_call 20; refine (specSumRationals_any hacc r9).mono ?_; rintro e w7 ⟨rfl, hx7⟩; rw [HO.out])
                  go_ret
                  exact ⟨by rw [HE3.out]; rfl, (by refine Chg.isExt (F := []) ?_ (refl_ext _) (by simp); repeat (with_reducible (first | exact Chg.refl _ _ | exact Nat.le_refl _ | exact Chg.ofExt (by assumption) | refine Chg.trans0 ?_ (by assumption) | refine Chg.extS ?_ _ | refine Chg.alloc ?_ _ | refine Chg.drew ?_ | refine Chg.setCellE ?_ ?_ _ | refine le_addk ?_ _ | refine le_ext ?_ | refine le_alloc ?_ _ | refine le_setC ?_ _ _ | refine le_drew ?_ | assumption | (refine Nat.le_of_lt ?_; omega) | omega)))⟩
                | some s =>
                  obtain ⟨s1, s2⟩ := s
                  by_cases hneg : 0 < cmpR (s1, s2) (1, 1)
                  · have HE3 := Lib.hid (show pacB ((n : Int), ats, out) xs = false by rw [HE2.out, ← HK.out]; rw [pacOk_gt HSEL.out hneg]; rfl)
                    obtain ⟨v, hv⟩ : ∃ v, cmpR (s1, s2) (1, 1) = v := ⟨_, rfl⟩
                    have HV9 := Lib.hid hv
                    rw [hv] at hneg
                    clear hv
                    go_wp2_with (first
                      | (go_at_call 20; refine (specSumRationals_any hacc r9).mono ?_; rintro e w7 ⟨rfl, hx7⟩; rw [HO.out])
                      | (go_at_call 21; refine specCompareRationals_any.mono ?_; rintro e w8 ⟨rfl, hx8⟩; rw [HV9.out]))
                    go_ret
                    exact ⟨by rw [HE3.out]; rfl, (by refine Chg.isExt (F := []) ?_ (refl_ext _) (by simp); repeat (with_reducible (first | exact Chg.refl _ _ | exact Nat.le_refl _ | exact Chg.ofExt (by assumption) | refine Chg.trans0 ?_ (by assumption) | refine Chg.extS ?_ _ | refine Chg.alloc ?_ _ | refine Chg.drew ?_ | refine Chg.setCellE ?_ ?_ _ | refine le_addk ?_ _ | refine le_ext ?_ | refine le_alloc ?_ _ | refine le_setC ?_ _ _ | refine le_drew ?_ | assumption | (refine Nat.le_of_lt ?_; omega) | omega)))⟩
                  · have HK2 := Lib.hid (show (ats.drop (k + 1)).all (pacOk xs) = ats.all (pacOk xs) by rw [← HK.out, pacOk_le HSEL.out hneg]; rfl)
                    obtain ⟨v, hv⟩ : ∃ v, cmpR (s1, s2) (1, 1) = v := ⟨_, rfl⟩
                    have HV9 := Lib.hid hv
                    rw [hv] at hneg
                    have hneg2 : v ≤ 0 := by omega
                    clear hv
                    go_wp2_with (first
                      | (go_at_call 20; refine (specSumRationals_any hacc r9).mono ?_; rintro e w7 ⟨rfl, hx7⟩; rw [HO.out])
                      | (go_at_call 21; refine specCompareRationals_any.mono ?_; rintro e w8 ⟨rfl, hx8⟩; rw [HV9.out]))
                    exact ⟨⟨k + 1, by go_num, by omega, (by refine Chg.isExt (F := []) ?_ (refl_ext _) (by simp); repeat (with_reducible (first | exact Chg.refl _ _ | exact Nat.le_refl _ | exact Chg.ofExt (by assumption) | refine Chg.trans0 ?_ (by assumption) | refine Chg.extS ?_ _ | refine Chg.alloc ?_ _ | refine Chg.drew ?_ | refine Chg.setCellE ?_ ?_ _ | refine le_addk ?_ _ | refine le_ext ?_ | refine le_alloc ?_ _ | refine le_setC ?_ _ _ | refine le_drew ?_ | assumption | (refine Nat.le_of_lt ?_; omega) | omega))), HK2⟩, by simp [intOf]; omega⟩
          · have ek := Hk.out
            rw [allW_end hlt] at ek
            have HK := Lib.hid ek
            clear ek
            go_wp2
            go_ret
            exact ⟨by rw [HE2.out, ← HK.out]; rfl, hyw⟩
    · have HL9 := Lib.hid (decide_eq_false hl)
      rw [decide_eq_false hl] at HE
      clear hl
      go_enter Tryd.func13, Tryd.ntmps13
      go_upto_region 1 with fail
      refine wp_name ?_
      intro W hW
      have xW : ∃ y, W = ext w y := by rw [hW.out]; exact (by refine Chg.isExt (F := []) ?_ (refl_ext _) (by simp); repeat (with_reducible (first | exact Chg.refl _ _ | exact Nat.le_refl _ | exact Chg.ofExt (by assumption) | refine Chg.trans0 ?_ (by assumption) | refine Chg.extS ?_ _ | refine Chg.alloc ?_ _ | refine Chg.drew ?_ | refine Chg.setCellE ?_ ?_ _ | refine le_addk ?_ _ | refine le_ext ?_ | refine le_alloc ?_ _ | refine le_setC ?_ _ _ | refine le_drew ?_ | assumption | (refine Nat.le_of_lt ?_; omega) | omega)))
      have BW0 : BoxAt W (w.heap.size) #[.int .i64 n, .slice A ats.length c, .slice B out.length e1] := by rw [hW.out]; refine ⟨?_, fun j => ?_, fun j => ?_⟩ <;> go_simp
      obtain ⟨lW0, bW0, fW0⟩ := BW0
      have cW0_0 : W.cell? ⟨w.heap.size, 0, none⟩ = some (.int .i64 n) := bW0 0
      have cW0_1 : W.cell? ⟨w.heap.size, 1, none⟩ = some (.slice A ats.length c) := bW0 1
      have cW0_2 : W.cell? ⟨w.heap.size, 2, none⟩ = some (.slice B out.length e1) := bW0 2
      clear hW
      have RW : BoxAt W w.heap.size #[.int .i64 n, .slice A ats.length c, .slice B out.length e1] := ⟨lW0, bW0, fW0⟩
      go_wp2_with (first
        | (go_at_call 17; refine (specIsValidQuery_w (d := ((n : Int), ats, out)) HQ.out (VD.toExt HV.out (by refine Chg.isExt (F := []) ?_ (refl_ext _) (by simp); repeat (with_reducible (first | exact Chg.refl _ _ | exact Nat.le_refl _ | exact Chg.ofExt (by assumption) | refine Chg.trans0 ?_ (by assumption) | refine Chg.extS ?_ _ | refine Chg.alloc ?_ _ | refine Chg.drew ?_ | refine Chg.setCellE ?_ ?_ _ | refine le_addk ?_ _ | refine le_ext ?_ | refine le_alloc ?_ _ | refine le_setC ?_ _ _ | refine le_drew ?_ | assumption | (refine Nat.le_of_lt ?_; omega) | omega))))).mono ?_; rintro e w1 ⟨rfl, hx1⟩; rw [HT1.out]; obtain ⟨l1, k1, k1', k1'', f1⟩ := box3 (RW.toExt hx1))
        | (go_at_call 18; refine (l12Small_any (n := n) hx (by omega) (hR.toExt (by refine Chg.isExt (F := []) ?_ (refl_ext _) (by simp); repeat (with_reducible (first | exact Chg.refl _ _ | exact Nat.le_refl _ | exact Chg.ofExt (by assumption) | refine Chg.trans0 ?_ (by assumption) | refine Chg.extS ?_ _ | refine Chg.alloc ?_ _ | refine Chg.drew ?_ | refine Chg.setCellE ?_ ?_ _ | refine le_addk ?_ _ | refine le_ext ?_ | refine le_alloc ?_ _ | refine le_setC ?_ _ _ | refine le_drew ?_ | assumption | (refine Nat.le_of_lt ?_; omega) | omega))))).mono ?_; rintro e w2 ⟨rfl, hx2⟩; rw [HT2.out, HL9.out, Bool.and_false]))
      go_ret
      exact ⟨by rw [HE.out]; simp, (by refine Chg.isExt (F := []) ?_ (refl_ext _) (by simp); repeat (with_reducible (first | exact Chg.refl _ _ | exact Nat.le_refl _ | exact Chg.ofExt (by assumption) | refine Chg.trans0 ?_ (by assumption) | refine Chg.extS ?_ _ | refine Chg.alloc ?_ _ | refine Chg.drew ?_ | refine Chg.setCellE ?_ ?_ _ | refine le_addk ?_ _ | refine le_ext ?_ | refine le_alloc ?_ _ | refine le_setC ?_ _ _ | refine le_drew ?_ | assumption | (refine Nat.le_of_lt ?_; omega) | omega)))⟩
theorem IsFractionalCover_l {A B C : Option Addr} {c e1 g : Nat} {d : Qd} {xs : List (Int × Int)} {w : World} (hg : OneAt w) (hb : BQ d) (h : vQ w [.int .i64 d.1, .slice A d.2.1.length c, .slice B d.2.2.length e1] d) (hx : xs.length ≤ 1000000000) (hR : RR w C xs) :
    Calls Tryd.prog 10 #[.agg #[.int .i64 d.1, .slice A d.2.1.length c, .slice B d.2.2.length e1], .slice C xs.length g] w fun e w' => e = .returned (.bool (covB d xs)) ∧ ∃ y, w' = ext w y :=
  IsFractionalCover_any hg hb.w h hx hR
theorem specIsFractionalCover_l {A B C : Option Addr} {c e1 g : Nat} {d : Qd} {xs : List (Int × Int)} {w : World} (hb : BQ d) (h : vQ w [.int .i64 d.1, .slice A d.2.1.length c, .slice B d.2.2.length e1] d) (hx : xs.length ≤ 1000000000) (hR : RR w C xs) :
    Calls Tryd.prog 7 #[.agg #[.int .i64 d.1, .slice A d.2.1.length c, .slice B d.2.2.length e1], .slice C xs.length g] w fun e w' => e = .returned (.bool (covB d xs)) ∧ ∃ y, w' = ext w y :=
  specIsFractionalCover_any hb.w h hx hR
theorem IsFractionalPacking_l {A B C : Option Addr} {c e1 g : Nat} {d : Qd} {xs : List (Int × Int)} {w : World} (hg : OneAt w) (hb : BQ d) (h : vQ w [.int .i64 d.1, .slice A d.2.1.length c, .slice B d.2.2.length e1] d) (hx : xs.length ≤ 1000000000) (hR : RR w C xs) :
    Calls Tryd.prog 14 #[.agg #[.int .i64 d.1, .slice A d.2.1.length c, .slice B d.2.2.length e1], .slice C xs.length g] w fun e w' => e = .returned (.bool (pacB d xs)) ∧ ∃ y, w' = ext w y :=
  IsFractionalPacking_any hg hb.w h hx hR
theorem specIsFractionalPacking_l {A B C : Option Addr} {c e1 g : Nat} {d : Qd} {xs : List (Int × Int)} {w : World} (hb : BQ d) (h : vQ w [.int .i64 d.1, .slice A d.2.1.length c, .slice B d.2.2.length e1] d) (hx : xs.length ≤ 1000000000) (hR : RR w C xs) :
    Calls Tryd.prog 13 #[.agg #[.int .i64 d.1, .slice A d.2.1.length c, .slice B d.2.2.length e1], .slice C xs.length g] w fun e w' => e = .returned (.bool (pacB d xs)) ∧ ∃ y, w' = ext w y :=
  specIsFractionalPacking_any hb.w h hx hR
end Go.Proofs.YtgehnacmgofobaaDoor
