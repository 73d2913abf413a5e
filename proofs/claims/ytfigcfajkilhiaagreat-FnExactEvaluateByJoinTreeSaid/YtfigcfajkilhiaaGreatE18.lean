/- Contracts of functions that the statement reaches. -/
import Derived.Test.YtfigcfajkilhiaaGreatE17
import Derived.Test.YtfigcfajkilhiaaGreatE13
import Derived.Test.YtfigcfajkilhiaaGreatE16
import Derived.Test.YtfigcfajkilhiaaGreatE06
namespace Go.Proofs.YtfigcfajkilhiaaGreat
open Go.RowKit
def RelRes (d : Rd) (w : World) (e : Ending) (w' : World) : Prop := ∃ v0 v1 F, e = .returned (.agg #[v0, v1]) ∧ (∃ y, w' = ext w y) ∧ sRel w' [v0, v1] d F ∧ F.Nodup ∧ ∀ b ∈ F, w.heap.size ≤ b
theorem atomBd_non {d : Dbd} {a : At} (h : lookD d a.1 = none) : atomBd d a = (((avars 5 0 a.2).length : Int), []) := atomBd_no (fun k => by rw [atFit_look h] at k; cases k.1)
theorem atomBd_ar {d : Dbd} {a : At} {r : Rd} (h : lookD d a.1 = some r) (hr : r.1 ≠ (a.2.length : Int)) : atomBd d a = (((avars 5 0 a.2).length : Int), []) := atomBd_no (fun k => by rw [atFit_look h] at k; exact hr (of_decide_eq_true k.1))
theorem atomBd_out {d : Dbd} {a : At} (h : fitsC 5 a.2 = false) (h5 : a.2.length ≤ 5) : atomBd d a = (((avars 5 0 a.2).length : Int), []) := atomBd_no (fun k => by
  have : fitsC 5 a.2 = true := fitsC_iff.2 ⟨h5, fun v hv => by have := k.2 v hv; omega⟩
  rw [h] at this; cases this)
theorem look_ok {d : Dbd} {a : At} {r : Rd} (h : lookD d a.1 = some r) (hr : r.1 = (a.2.length : Int)) : atFit d a = true ∧ relOf d a = r ∧ a.2.length ≤ 5 ∧ r.2.length ≤ 16 ∧ ∀ x ∈ r.2, x.length = a.2.length := by
  have hf : atFit d a = true := by rw [atFit_look h]; exact decide_eq_true hr
  have hro : relOf d a = r := by unfold relOf; rw [h]; rfl
  have hT := (atFit_some hf).2.1
  rw [hro] at hT
  have hb := rowsB_iff.1 hT.rel
  simp only at hb
  exact ⟨hf, hro, by omega, hT.cnt, fun x hx => by have := (hb.2.2.2.1 x hx).1; omega⟩
theorem pick_n {A A' : Option Addr} {c c' n : Nat} {row cols : List Int} {w : World} (hn : row.length = n) (h1 : RI w A row) (hc : cols.length ≤ 1000000000) (h2 : RI w A' cols) (hb : ∀ v ∈ cols, 0 ≤ v ∧ v < (n : Int)) :
    Calls Tryz.prog 96 #[.slice A n c, .slice A' cols.length c'] w fun e w' => ∃ v F, e = .returned v ∧ (∃ y, w' = ext w y) ∧ SV 3 1 sI w' v (pickL row cols) F ∧ ∀ b ∈ F, w.heap.size ≤ b := by
  subst hn
  exact pick_any h1 hc h2 hb
set_option maxRecDepth 100000 in
set_option maxHeartbeats 16000000 in
theorem AtomBindings_any {A B : Option Addr} {c e : Nat} {d : Dbd} {a : At} {w : World} (hd : WDb d) (h1 : RV 3 vTb w A d) (hx : a.2.length ≤ 1000000000) (h2 : RI w B a.2) :
    Calls Tryz.prog 79 #[.agg #[.slice A d.length c], .agg #[.string a.1, .slice B a.2.length e]] w (RelRes (atomBd d a) w) := by
  have HD := Lib.hid hd
  have hav5 := avars_length 5 0 a.2
  have HZ1 := Lib.hid (fun h => atomBd_non (d := d) (a := a) h)
  have HZ2 := Lib.hid (fun r h hr => atomBd_ar (d := d) (a := a) (r := r) h hr)
  have HZ3 := Lib.hid (fun h h5 => atomBd_out (d := d) (a := a) h h5)
  have HZ4 := Lib.hid (atomBd_yes (d := d) (a := a))
  have HAV := Lib.hid (fun v (hv : v ∈ avars 5 0 a.2) => (mem_avars 5 0 _ v).1 hv)
  have HFS := Lib.hid (fun rows k (hk : k < rows.length) => fitR_step (xs := a.2) (rows := rows) (k := k) hk)
  obtain ⟨o, ho⟩ : ∃ o, lookD d a.1 = o := ⟨_, rfl⟩
  have HO := Lib.hid ho
  clear hd ho
  go_enter Tryz.func79, Tryz.ntmps79
  go_upto_region 1 with fail
  refine wp_name ?_
  intro W hW
  have xW : ∃ y, W = ext w y := by rw [hW.out]; exact (by refine x'z ?_; repeat (with_reducible (first | exact x'a _ _ | exact x'b _ | exact x'c (by assumption) | refine x'd ?_ (by assumption) | refine x'e ?_ _ | refine x'f ?_ _ | refine x'g ?_ | refine x'h ?_ ?_ _ | refine x'i ?_ _ | refine x'j ?_ | refine x'k ?_ _ | refine x'l ?_ _ _ | refine x'm ?_ | assumption | (refine x'n ?_; omega) | omega)))
  have PW : BoxAt W w.heap.size #[.slice A d.length c] := by rw [hW.out]; exact (by repeat (with_reducible (first | assumption | exact BoxAt.new _ _ _ | apply BoxAt.set10 | apply BoxAt.set2 | refine BoxAt.set2' ?_ (by omega) | apply BoxAt.setP0 | apply BoxAt.setP1 | refine BoxAt.setO ?_ (by omega) | refine BoxAt.alloc ?_ _ | refine BoxAt.drew ?_ | refine BoxAt.toExt ?_ (by assumption))))
  have QW : BoxAt W (w.heap.size + 1) #[.string a.1, .slice B a.2.length e] := by rw [hW.out]; refine ⟨?_, fun j => ?_, fun j => ?_⟩ <;> go_simp
  have RW : BoxAt W (w.heap.size + 1 + 1) #[.int .i64 0, .slice none 0 0] := by rw [hW.out]; refine ⟨?_, fun j => ?_, fun j => ?_⟩ <;> go_simp
  obtain ⟨lq, q0, q1, fq⟩ := bx2 QW
  clear hW
  go_wp2_with fail
  refine (AtomVariables_any (by omega) (h2.toExt xW)).mono ?_
  rintro e w1 ⟨v1, F1, rfl, hx1, hSv, hFv⟩
  obtain ⟨Av, cv, rfl, _, _, rv⟩ := hSv.view sI_v
  obtain ⟨vars, hvars⟩ : ∃ v, avars 5 0 a.2 = v := ⟨_, rfl⟩
  have HVR := Lib.hid hvars
  rw [hvars] at rv hav5 HZ1 HZ2 HZ3 HZ4 HAV HFS ⊢
  obtain ⟨n, hn⟩ : ∃ n : Int, (vars.length : Int) = n := ⟨_, rfl⟩
  have HNN := Lib.hid hn
  rw [hn] at HZ1 HZ2 HZ3 HZ4
  have P1 := PW.toExt hx1
  have Q1 := QW.toExt hx1
  have R1 := RW.toExt hx1
  have xw1 := trans_ext xW hx1
  obtain ⟨lp1, p10, fp1⟩ := bx1 P1
  obtain ⟨lq1, q10, q11, fq1⟩ := bx2 Q1
  clear lq q0 q1 fq PW QW RW hSv hFv hvars
  go_upto_region 3 with fail
  refine wp_name ?_
  intro w2 hw2
  have x12 : ∃ y, w2 = ext w1 y := by rw [hw2.out]; exact (by refine x'z ?_; repeat (with_reducible (first | exact x'a _ _ | exact x'b _ | exact x'c (by assumption) | refine x'd ?_ (by assumption) | refine x'e ?_ _ | refine x'f ?_ _ | refine x'g ?_ | refine x'h ?_ ?_ _ | refine x'i ?_ _ | refine x'j ?_ | refine x'k ?_ _ | refine x'l ?_ _ _ | refine x'm ?_ | assumption | (refine x'n ?_; omega) | omega)))
  have O2 : BoxAt w2 w1.heap.size #[.int .i64 n, .slice none 0 0] := by rw [hw2.out, ← HNN.out]; exact (by repeat (with_reducible (first | assumption | exact BoxAt.new _ _ _ | apply BoxAt.set2 | refine BoxAt.set2' ?_ (by omega) | apply BoxAt.setP0 | apply BoxAt.setP1 | refine BoxAt.setO ?_ (by omega) | refine BoxAt.alloc ?_ _ | refine BoxAt.drew ?_ | refine BoxAt.toExt ?_ (by assumption))))
  obtain ⟨bO, qO⟩ : ∃ b, w1.heap.size = b := ⟨_, rfl⟩
  have hbO : w.heap.size + 1 + 1 < bO := by have := R1.1; omega
  rw [qO] at O2 ⊢
  have P2 := P1.toExt x12
  have Q2 := Q1.toExt x12
  have R2 := R1.toExt x12
  have xw2 := trans_ext xw1 x12
  have rv2 := rv.toExt x12
  obtain ⟨lp2, p20, fp2⟩ := bx1 P2
  obtain ⟨lq2, q20, q21, fq2⟩ := bx2 Q2
  clear hw2 qO lp1 p10 fp1 lq1 q10 q11 fq1 P1 Q1 R1 hn rv
  go_upto_region 4 with (go_at_call 104; refine (LookupRelation_any HD.out (h1.toExt xw2)).mono ?_; rw [HO.out]; rintro e w3 ⟨u0, u1, F3, rfl, hx3, hS3, hN3, hF3⟩; obtain ⟨A3, c3, rfl, rfl, hI3⟩ := sRel_form hS3)
  refine wp_name ?_
  intro w4 hw4
  have x34 : ∃ y, w4 = ext w3 y := by rw [hw4.out]; exact (by refine x'z ?_; repeat (with_reducible (first | exact x'a _ _ | exact x'b _ | exact x'c (by assumption) | refine x'd ?_ (by assumption) | refine x'e ?_ _ | refine x'f ?_ _ | refine x'g ?_ | refine x'h ?_ ?_ _ | refine x'i ?_ _ | refine x'j ?_ | refine x'k ?_ _ | refine x'l ?_ _ _ | refine x'm ?_ | assumption | (refine x'n ?_; omega) | omega)))
  have X4 : BoxAt w4 w3.heap.size #[.int .i64 (o.getD (0, [])).1, .slice A3 (o.getD (0, [])).2.length c3] := by rw [hw4.out]; exact (by repeat (with_reducible (first | assumption | exact BoxAt.new _ _ _ | apply BoxAt.set2 | refine BoxAt.set2' ?_ (by omega) | apply BoxAt.setP0 | apply BoxAt.setP1 | refine BoxAt.setO ?_ (by omega) | refine BoxAt.alloc ?_ _ | refine BoxAt.drew ?_ | refine BoxAt.toExt ?_ (by assumption))))
  have x24 := trans_ext hx3 x34
  have xw4 := trans_ext xw2 x24
  have O4 := O2.toExt x24
  have Q4 := Q2.toExt x24
  have R4 := R2.toExt x24
  have rv4 := rv2.toExt x24
  have rk4 : RII w4 A3 (o.getD (0, [])).2 := ((vII_get (sII_v _ _ _ hI3)).2).toExt x34
  obtain ⟨lo4, o40, o41, fo4⟩ := bx2 O4
  obtain ⟨lx4, x40, x41, fx4⟩ := bx2 X4
  obtain ⟨lq4, q40, q41, fq4⟩ := bx2 Q4
  obtain ⟨lr4, r40, r41, fr4⟩ := bx2 R4
  clear hw4 hS3 hI3 hN3 hF3 lp2 p20 fp2 lq2 q20 q21 fq2 P2 Q2 R2 O2 rv2 X4
  cases o with
  | none =>
    have HZ := Lib.hid (HZ1.out HO.out)
    go_wp2_with fail
    refine bodyPost_ret (v := .agg #[.int .i64 n, .slice none 0 0]) (by simp [results, Tryz.results79, go_sem, *]) rfl ⟨_, _, [], rfl, (by refine x'z ?_; repeat (with_reducible (first | exact x'a _ _ | exact x'b _ | exact x'c (by assumption) | refine x'd ?_ (by assumption) | refine x'e ?_ _ | refine x'f ?_ _ | refine x'g ?_ | refine x'h ?_ ?_ _ | refine x'i ?_ _ | refine x'j ?_ | refine x'k ?_ _ | refine x'l ?_ _ _ | refine x'm ?_ | assumption | (refine x'n ?_; omega) | omega))), ?_, by simp, by simp⟩
    rw [HZ.out]
    exact sRel_mk (F := []) ⟨_, rfl, SV.nil⟩
  | some r =>
    simp only [Option.getD_some] at x40 x41 rk4
    have h2r := h2.toExt xw4
    by_cases hr : r.1 = (a.2.length : Int)
    · have hne : (r.1 != (a.2.length : Int)) = false := by simpa using hr
      obtain ⟨k1, k2, k3, k4, k5⟩ := look_ok HO.out hr
      have HL5 := Lib.hid k5
      have HF1 := Lib.hid k1
      have HF2 := Lib.hid k2
      obtain ⟨t, ht⟩ : ∃ t, fitsC 5 a.2 = t := ⟨_, rfl⟩
      have HT := Lib.hid ht
      have hx9 : a.2.length ≤ 1000000000 := by omega
      cases t with
      | false =>
        have HZ := Lib.hid (HZ3.out ht k3)
        clear hr k1 k2 k5 ht
        go_wp2_with (go_at_call 95; refine (columnsFit_any (a := 5) (by omega) (by omega) hx9 h2r).mono ?_; rintro e w5 ⟨rfl, rfl⟩; rw [HT.out])
        refine bodyPost_ret (v := .agg #[.int .i64 n, .slice none 0 0]) (by simp [results, Tryz.results79, go_sem, *]) rfl ⟨_, _, [], rfl, (by refine x'z ?_; repeat (with_reducible (first | exact x'a _ _ | exact x'b _ | exact x'c (by assumption) | refine x'd ?_ (by assumption) | refine x'e ?_ _ | refine x'f ?_ _ | refine x'g ?_ | refine x'h ?_ ?_ _ | refine x'i ?_ _ | refine x'j ?_ | refine x'k ?_ _ | refine x'l ?_ _ _ | refine x'm ?_ | assumption | (refine x'n ?_; omega) | omega))), ?_, by simp, by simp⟩
        rw [HZ.out]
        exact sRel_mk (F := []) ⟨_, rfl, SV.nil⟩
      | true =>
        have hb04 : ∀ v ∈ a.2, 0 ≤ v ∧ v ≤ 4 := fun v hv => by have := (fitsC_iff.1 ht).2 v hv; omega
        have HB4 := Lib.hid hb04
        have HZ := Lib.hid (show atomBd d a = (n, sortR (fitR a.2 r.2)) by rw [HZ4.out HF1.out hb04, k2])
        have HVC : Hid (∀ v ∈ vars, 0 ≤ v ∧ v < ((5 : Nat) : Int)) := Lib.hid (fun v hv => by have := HAV.out v hv; omega)
        have HVM : Hid (∀ v ∈ vars, v ∈ a.2) := Lib.hid (fun v hv => (HAV.out v hv).2.2)
        clear hr k1 k2 k5 ht hb04
        go_wp2_with (go_at_call 95; refine (columnsFit_any (a := 5) (by omega) (by omega) hx9 h2r).mono ?_; rintro e w5 ⟨rfl, rfl⟩; rw [HT.out])
        clear lo4 o40 o41 fo4 lx4 x40 x41 fx4 lq4 q40 q41 fq4 lr4 r40 r41 fr4 h2r
        go_loopw [9, 49] (fun v i wr => ∃ (k : Nat) (F : List Nat), i = .int .i64 k ∧ k ≤ r.2.length ∧ SV 26 1 sRow wr v (fitR a.2 (r.2.take k)) F ∧ Hid F.Nodup ∧ Hid (∀ x ∈ F, w4.heap.size ≤ x) ∧ ∃ y, wr = ext w4 y) (fun _ i _ => r.2.length - (intOf i).toNat)
        case atStart => exact ⟨0, [], rfl, by omega, by simpa [fitR] using SV.nil, Lib.hid (by simp), Lib.hid (by simp), refl_ext w4⟩
        case round =>
          obtain ⟨k, F, rfl, hk, hS, HN, HF, hy⟩ := hrel
          by_cases hlt : k < r.2.length
          · obtain ⟨br, orr, A5, c5, rfl, hbr, hcr, hvr⟩ := (rk4.toExt hy).atV hlt
            have lr := HL5.out _ (List.getElem_mem hlt)
            have hst := HFS.out r.2 k hlt
            have hlk := fitR_len (xs := a.2) (rows := r.2) (k := k)
            obtain ⟨row, hrow⟩ : ∃ x, r.2[k] = x := ⟨_, rfl⟩
            rw [hrow] at hcr hvr lr hst
            obtain ⟨fl, hfl⟩ : ∃ l, fitR a.2 (r.2.take k) = l := ⟨_, rfl⟩
            rw [hfl] at hst hlk hS
            have HST := Lib.hid hst
            have HS := Lib.hid hS
            have HSlt := Lib.hid hS.lt
            have HLR := Lib.hid lr
            have HVR2 := Lib.hid hvr
            have HFA := Lib.hid (fitI_all lr)
            clear hrow hfl lr hst hS hvr
            go_wp2_with (at_make; refine wpList_makeS (E := sI) (d := 0) (n := 5) _ rfl _ _ _ rfl tI rfl rfl (fun _ => ⟨rfl, rfl⟩) (by omega) (by omega) ?_; intro wm hSm hxm hgm; obtain ⟨lq5, q50, q51, fq5⟩ := bx2 (Q4.toExt (trans_ext hy hxm)))
            obtain ⟨g, hg⟩ : ∃ g, wr.heap.size = g := ⟨_, rfl⟩
            have hgr : wr.heap.size ≤ g := by omega
            rw [hg] at hSm hgm ⊢
            clear lq5 q50 q51 fq5 hg hcr hbr
            obtain ⟨wo, rfl⟩ : ∃ wo : World, wo = wr := ⟨_, rfl⟩
            go_loopw [13, 57] (fun f i wq => ∃ (j : Nat) (L : List Int), i = .int .i64 j ∧ j ≤ a.2.length ∧ f = .bool (fitI a.2 row j) ∧ SV 3 1 sI wq (.slice (some ⟨g, 0, none⟩) 5 5) L [g] ∧ Hid (VOk a.2 row L j) ∧ Chg [g] wm wq) (fun _ i _ => a.2.length - (intOf i).toNat)
            case atStart => exact ⟨0, _, rfl, by omega, rfl, hSm, Lib.hid ⟨by simp, fun _ j hj => by omega⟩, Chg.refl _ _⟩
            case round =>
              obtain ⟨j, L, rfl, hj, rfl, hSL, HVO, hC⟩ := hrel
              have hyo : ∃ y, wr = ext wo y := hC.isExt hxm (by simpa using hgr)
              have hy4 := trans_ext hy hyo
              have Q5 := Q4.toExt hy4
              obtain ⟨lq5, q50, q51, fq5⟩ := bx2 Q5
              by_cases hlt2 : j < a.2.length
              · have hw5 := trans_ext xw4 hy4
                obtain ⟨bv, ov, rfl, hbv, hcv⟩ := (h2.toExt hw5).atI' (n := j) hlt2
                have hb5 := HB4.out _ (List.getElem_mem hlt2)
                have hmem := List.getElem_mem hlt2
                have HVS := Lib.hid (HVO.out.step HB4.out hlt2)
                have hfs := fitI_step (xs := a.2) (row := row) (k := j)
                obtain ⟨br', or', rfl, hbr', hcr'⟩ := (HVR2.out.toExt hyo).atI' (n := j) (by rw [HLR.out]; exact hlt2)
                rw [← getDl a.2 0 hlt2] at hb5 hmem
                obtain ⟨p, hp1, hp2, hp3⟩ := iof_at (r := row) hmem
                obtain ⟨_, _, e9, _, hcp⟩ := (HVR2.out.toExt hyo).atI' (n := p) (by rw [HLR.out]; exact hp1)
                injection e9 with e9
                injection e9 with e9 e10 _
                subst e9 e10
                rw [hp3] at hfs
                obtain ⟨v, hv⟩ : ∃ v, a.2.getD j 0 = v := ⟨_, rfl⟩
                rw [hv] at hcv hb5 hp2 HVS
                obtain ⟨m, rfl⟩ := Int.eq_ofNat_of_zero_le hb5.1
                rw [Int.toNat_natCast] at HVS
                have hm5 : m < 5 := by omega
                have HI := Lib.hid hp2
                have hpl : (p : Int) < (row.length : Int) := by rw [HLR.out]; omega
                have hjl : (j : Int) < (row.length : Int) := by rw [HLR.out]; omega
                obtain ⟨x, hx9'⟩ : ∃ x, row.getD p 0 = x := ⟨_, rfl⟩
                obtain ⟨z, hz9⟩ : ∃ z, row.getD j 0 = z := ⟨_, rfl⟩
                rw [hx9'] at hcp hfs
                rw [hz9] at hcr' hfs HVS
                obtain ⟨fj, hfj⟩ : ∃ f, fitI a.2 row j = f := ⟨_, rfl⟩
                rw [hfj] at hfs ⊢
                have HFJ := Lib.hid hfs
                have HSL := Lib.hid hSL
                have h2r := h2.toExt hw5
                clear hv hb5 hmem hp2 hp3 hx9' hz9 hfj hfs
                go_upto_region 16 with (go_at_call 108; refine (indexOf_any hx9 h2r).mono ?_; rintro e w6 ⟨rfl, hx6⟩; rw [HI.out])
                have hc6 := cellW hx6 hbr' hcp
                have hc6' := cellW hx6 hbr' hcr'
                have hb6 := ltW hx6 hbr'
                have hS6 := HSL.out.toExt hx6
                clear hcp hcr' hbr' hcv hbv lq5 q50 q51 fq5
                by_cases hxz : x = z
                · have hbe : (x == z) = true := by simpa using hxz
                  have HFN := Lib.hid (show fitI a.2 row (j + 1) = fj by rw [HFJ.out, decide_eq_true hxz, Bool.and_true])
                  cases fj
                  all_goals
                    refine wp_region_ext (by kernel_rfl) (by kernel_rfl) ?_
                    repeat (go_big_quiet_step (fail))
                    refine wpQuiet_nil ?_
                    rintro _ ⟨zz, rfl⟩
                    obtain ⟨wz, hwz⟩ : ∃ wz, ext w6 zz = wz := ⟨_, rfl⟩
                    rw [hwz]
                    have x6z : ∃ y, wz = ext w6 y := ⟨zz, hwz.symm⟩
                    have hc7 := cellW x6z hb6 hc6'
                    have hb7 := ltW x6z hb6
                    have hS7 := hS6.toExt x6z
                    have hcell := hS7.cell (by have := HVO.out.1; omega) (j := m) (by omega)
                    obtain ⟨⟨u9, hu9⟩, hf9, hg9⟩ := hcell
                    obtain ⟨s1, s2⟩ := hS7.set1 (by have := HVO.out.1; omega) (k := m) hm5 (u := .int .i64 z) (d := z) (fun _ => ⟨rfl, rfl⟩)
                    have HS1 := Lib.hid s1
                    have HC1 := Lib.hid (((hC.trans0 hx6).trans0 x6z).trans s2 (fun y hy => .inl hy))
                    clear hwz s1 s2 hS7 hc6 hc6' hb6
                    go_wp2
                    exact ⟨⟨j + 1, _, by go_num, by omega, by rw [HFN.out], HS1.out, HVS, HC1.out⟩, by simp [intOf]; omega⟩
                · have hbe : (x == z) = false := by simpa using hxz
                  have HFN := Lib.hid (show fitI a.2 row (j + 1) = false by rw [HFJ.out, decide_eq_false hxz, Bool.and_false])
                  cases fj
                  all_goals
                    refine wp_region_ext (by kernel_rfl) (by kernel_rfl) ?_
                    repeat (go_big_quiet_step (fail))
                    refine wpQuiet_nil ?_
                    rintro _ ⟨zz, rfl⟩
                    obtain ⟨wz, hwz⟩ : ∃ wz, ext w6 zz = wz := ⟨_, rfl⟩
                    rw [hwz]
                    have x6z : ∃ y, wz = ext w6 y := ⟨zz, hwz.symm⟩
                    have hc7 := cellW x6z hb6 hc6'
                    have hb7 := ltW x6z hb6
                    have hS7 := hS6.toExt x6z
                    have hcell := hS7.cell (by have := HVO.out.1; omega) (j := m) (by omega)
                    obtain ⟨⟨u9, hu9⟩, hf9, hg9⟩ := hcell
                    obtain ⟨s1, s2⟩ := hS7.set1 (by have := HVO.out.1; omega) (k := m) hm5 (u := .int .i64 z) (d := z) (fun _ => ⟨rfl, rfl⟩)
                    have HS1 := Lib.hid s1
                    have HC1 := Lib.hid (((hC.trans0 hx6).trans0 x6z).trans s2 (fun y hy => .inl hy))
                    clear hwz s1 s2 hS7 hc6 hc6' hb6
                    go_wp2
                    exact ⟨⟨j + 1, _, by go_num, by omega, by rw [HFN.out], HS1.out, HVS, HC1.out⟩, by simp [intOf]; omega⟩
              · obtain rfl : j = a.2.length := by omega
                rw [HFA.out]
                have HVD := Lib.hid (fun (h : rowFit a.2 row = true) => HVO.out.done (vars := vars) (by rw [HFA.out]; exact h) HVM.out)
                have hL5 : L.length = 5 := HVO.out.1
                have HL5' := Lib.hid hL5
                obtain ⟨t, ht⟩ : ∃ t, rowFit a.2 row = t := ⟨_, rfl⟩
                rw [ht] at HST HVD ⊢
                have hSo := HS.out.toExt hyo
                have hy4' := trans_ext hy hyo
                clear ht hL5 lq5 q50 q51 fq5
                cases t with
                | false =>
                  have HK := Lib.hid (show fitR a.2 (r.2.take (k + 1)) = fl by rw [HST.out]; simp)
                  go_wp2
                  exact ⟨⟨k + 1, F, by go_num, by omega, by rw [HK.out]; exact hSo, HN, HF, hy4'⟩, by simp [intOf]; omega⟩
                | true =>
                  obtain ⟨nr, hnr⟩ : ∃ l, vars.map (valAt a.2 row) = l := ⟨_, rfl⟩
                  have HPK := Lib.hid (show pickL L vars = nr by rw [HVD.out rfl, hnr])
                  have HK := Lib.hid (show fitR a.2 (r.2.take (k + 1)) = fl ++ [nr] by rw [HST.out, if_pos rfl, hnr])
                  have hrL := hSL.toView sI_v
                  have hrv := rv4.toExt hy4'
                  have hFl : ∀ b ∈ F, b < wr.heap.size := fun b hb => Nat.lt_of_lt_of_le (HSlt.out b hb) (size_of_ext hyo)
                  have HFl := Lib.hid hFl
                  have hvl : vars.length ≤ 1000000000 := by omega
                  have hlk2 : fl.length + 1 ≤ 2000000000 := by omega
                  clear hnr hFl
                  go_wp2_with (first
                    | (go_at_call 96; refine (pick_n HL5'.out hrL hvl hrv HVC.out).mono ?_; rw [HPK.out]; rintro e w7 ⟨v7, F7, rfl, hx7, hS7, hF7⟩; obtain ⟨A7, c7, rfl, _, _⟩ := hS7.form; have hN3 := nodup_more HN.out hS7.nodup HFl.out hF7; have hz7 := size_of_ext hx7)
                    | (at_builtin; refine wpList_appN (E := sRow) (d := nr) (G := F7) rfl _ _ _ rfl tIIr rfl rfl rfl (by simp) ⟨_, rfl, hS7⟩ rfl (by simp [Value.oneCell']) (hSo.toExt hx7) hN3 hlk2 (by omega) ?_; intro v' w' F' hS' hC' hN' hF'))
                  refine ⟨⟨k + 1, F', by go_num, by omega, by rw [HK.out]; exact hS', Lib.hid hN', Lib.hid (fun b hb => ?_), hC'.isExt (trans_ext hy4' hx7) HF.out⟩, by simp [intOf]; omega⟩
                  have hzw := size_of_ext hy4'
                  rcases hF' b hb with h | h | h
                  · exact HF.out b h
                  · have := hF7 b h; omega
                  · omega
          · obtain rfl : k = r.2.length := by omega
            rw [List.take_of_length_le (Nat.le_refl _)] at hS
            have hlk := fitR_len (xs := a.2) (rows := r.2) (k := r.2.length)
            rw [List.take_of_length_le (Nat.le_refl _)] at hlk
            have HLE := Lib.hid (fun x (hx : x ∈ fitR a.2 r.2) => show x.length ≤ 1000000000 from Nat.le_trans (fitR_el x hx) (by omega))
            obtain ⟨fl, hfl⟩ : ∃ l, fitR a.2 r.2 = l := ⟨_, rfl⟩
            rw [hfl] at hS hlk HLE HZ
            obtain ⟨A7, c7, rfl, hc7, _, rv7⟩ := hS.view (V := vSl 1 vI) (sSl_v sI_v)
            obtain ⟨sr, hsr⟩ : ∃ s, sortR fl = s := ⟨_, rfl⟩
            have HSR := Lib.hid hsr
            rw [hsr] at HZ
            have hjb : fl.length ≤ 1000000000 := by omega
            have O7 := O4.toExt hy
            have R7 := R4.toExt hy
            obtain ⟨lo7, o70, o71, fo7⟩ := bx2 O7
            clear hfl hsr
            go_wp2_with (go_at_call 93; refine (sorted_any fl.length A7 c7 fl _ (Nat.le_refl _) hjb hc7 HLE.out rv7).mono ?_; rintro e w8 ⟨v8, F8, rfl, hx8, hS8, hN8, hF8⟩; rw [HSR.out] at hS8; obtain ⟨A8, c8, rfl, _, _⟩ := hS8.form; obtain ⟨lr8, r80, r81, fr8⟩ := bx2 (R7.toExt hx8); obtain ⟨lo8, o80, o81, fo8⟩ := bx2 (O7.toExt hx8))
            have hz4 := size_of_ext hy
            have hz24 := size_of_ext x24
            have hzw := size_of_ext xw2
            have hz12 := size_of_ext x12
            have hzO := (O4.toExt hy).1
            refine bodyPost_ret (v := .agg #[.int .i64 n, .slice A8 sr.length c8]) (by simp [results, Tryz.results79, go_sem, *]) rfl ⟨_, _, F8, rfl, (by refine x'z ?_; repeat (with_reducible (first | exact x'a _ _ | exact x'b _ | exact x'c (by assumption) | refine x'd ?_ (by assumption) | refine x'e ?_ _ | refine x'f ?_ _ | refine x'g ?_ | refine x'h ?_ ?_ _ | refine x'i ?_ _ | refine x'j ?_ | refine x'k ?_ _ | refine x'l ?_ _ _ | refine x'm ?_ | assumption | (refine x'n ?_; omega) | omega))), ?_, hN8, fun b hb => ?_⟩
            · rw [HZ.out]
              refine sRel_mk (OD.chg (E := sII) (G := [bO, w.heap.size + 1 + 1]) ⟨_, rfl, hS8⟩ (by repeat (with_reducible (first | exact Chg.refl _ _ | refine Chg.trans0 ?_ (by assumption) | refine Chg.extS ?_ _ | refine Chg.alloc ?_ _ | refine Chg.drew ?_ | refine Chg.setCell ?_ (.inl (by simp)) _))) ?_)
              intro b hb h
              have := hF8 b hb
              simp at h
              omega
            · have := hF8 b hb
              omega
    · have hne : (r.1 != (a.2.length : Int)) = true := by simpa using hr
      have HZ := Lib.hid (HZ2.out r HO.out hr)
      clear hr
      go_wp2_with fail
      refine bodyPost_ret (v := .agg #[.int .i64 n, .slice none 0 0]) (by simp [results, Tryz.results79, go_sem, *]) rfl ⟨_, _, [], rfl, (by refine x'z ?_; repeat (with_reducible (first | exact x'a _ _ | exact x'b _ | exact x'c (by assumption) | refine x'd ?_ (by assumption) | refine x'e ?_ _ | refine x'f ?_ _ | refine x'g ?_ | refine x'h ?_ ?_ _ | refine x'i ?_ _ | refine x'j ?_ | refine x'k ?_ _ | refine x'l ?_ _ _ | refine x'm ?_ | assumption | (refine x'n ?_; omega) | omega))), ?_, by simp, by simp⟩
      rw [HZ.out]
      exact sRel_mk (F := []) ⟨_, rfl, SV.nil⟩
end Go.Proofs.YtfigcfajkilhiaaGreat
