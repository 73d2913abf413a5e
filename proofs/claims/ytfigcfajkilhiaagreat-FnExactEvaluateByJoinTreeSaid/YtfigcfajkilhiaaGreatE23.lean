/- Contracts of functions that the statement reaches. -/
import Derived.Test.YtfigcfajkilhiaaGreatE18
import Derived.Test.YtfigcfajkilhiaaGreatE17
namespace Go.Proofs.YtfigcfajkilhiaaGreat
open Go.RowKit
theorem mapt_step {vars xs row : List Int} {k : Nat} (h : k < vars.length) : (vars.take (k + 1)).map (valAt xs row) = (vars.take k).map (valAt xs row) ++ [valAt xs row vars[k]] := by
  rw [List.take_succ_eq_append_getElem h, List.map_append]
  rfl
set_option maxRecDepth 100000 in
set_option maxHeartbeats 16000000 in
theorem specAtomBindings_any {A B : Option Addr} {c e : Nat} {d : Dbd} {a : At} {w : World} (hd : WDb d) (h1 : RV 3 vTb w A d) (hx : a.2.length ≤ 1000000000) (h2 : RI w B a.2) :
    Calls Tryz.prog 68 #[.agg #[.slice A d.length c], .agg #[.string a.1, .slice B a.2.length e]] w (RelRes (atomBd d a) w) := by
  have HD := Lib.hid hd
  have hav5 := avars_length 5 0 a.2
  have HZ1 := Lib.hid (fun h => atomBd_non (d := d) (a := a) h)
  have HZ2 := Lib.hid (fun r h hr => atomBd_ar (d := d) (a := a) (r := r) h hr)
  have HAV := Lib.hid (fun v (hv : v ∈ avars 5 0 a.2) => (mem_avars 5 0 _ v).1 hv)
  have HFS := Lib.hid (fun rows k (hk : k < rows.length) => fitRS_step (xs := a.2) (rows := rows) (k := k) hk)
  have HFE := Lib.hid (fun rows => fitRS_el (xs := a.2) (rows := rows))
  have HNW := Lib.hid (fun h => fitRS_eq (d := d) (a := a) h)
  obtain ⟨o, ho⟩ : ∃ o, lookD d a.1 = o := ⟨_, rfl⟩
  have HO := Lib.hid ho
  clear hd ho
  go_enter Tryz.func68, Tryz.ntmps68
  go_upto_region 1 with fail
  refine wp_name ?_
  intro W hW
  have xW : ∃ y, W = ext w y := by rw [hW.out]; exact (by refine x'z ?_; repeat (with_reducible (first | exact x'a _ _ | exact x'b _ | exact x'c (by assumption) | refine x'd ?_ (by assumption) | refine x'e ?_ _ | refine x'f ?_ _ | refine x'g ?_ | refine x'h ?_ ?_ _ | refine x'i ?_ _ | refine x'j ?_ | refine x'k ?_ _ | refine x'l ?_ _ _ | refine x'm ?_ | assumption | (refine x'n ?_; omega) | omega)))
  have PW : BoxAt W w.heap.size #[.slice A d.length c] := by rw [hW.out]; exact (by repeat (with_reducible (first | assumption | exact BoxAt.new _ _ _ | apply BoxAt.set10 | apply BoxAt.set2 | refine BoxAt.set2' ?_ (by omega) | apply BoxAt.setP0 | apply BoxAt.setP1 | refine BoxAt.setO ?_ (by omega) | refine BoxAt.alloc ?_ _ | refine BoxAt.drew ?_ | refine BoxAt.toExt ?_ (by assumption))))
  have QW : BoxAt W (w.heap.size + 1) #[.string a.1, .slice B a.2.length e] := by rw [hW.out]; refine ⟨?_, fun j => ?_, fun j => ?_⟩ <;> go_simp
  have RW : BoxAt W (w.heap.size + 1 + 1) #[.int .i64 0, .slice none 0 0] := by rw [hW.out]; refine ⟨?_, fun j => ?_, fun j => ?_⟩ <;> go_simp
  obtain ⟨lq, q0, q1, fq⟩ := bx2 QW
  clear hW
  go_wp2_with fail
  refine (specAtomVariables_any (by omega) (h2.toExt xW)).mono ?_
  rintro e w1 ⟨v1, F1, rfl, hx1, hSv, hFv⟩
  obtain ⟨Av, cv, rfl, _, _, rv⟩ := hSv.view sI_v
  obtain ⟨vars, hvars⟩ : ∃ v, avars 5 0 a.2 = v := ⟨_, rfl⟩
  have HVR := Lib.hid hvars
  rw [hvars] at rv hav5 HZ1 HZ2 HAV HFS HFE HNW ⊢
  obtain ⟨n, hn⟩ : ∃ n : Int, (vars.length : Int) = n := ⟨_, rfl⟩
  have HNN := Lib.hid hn
  rw [hn] at HZ1 HZ2 HNW
  have hI64 : I64 n := ⟨by omega, by omega⟩
  have P1 := PW.toExt hx1
  have Q1 := QW.toExt hx1
  have R1 := RW.toExt hx1
  have xw1 := trans_ext xW hx1
  obtain ⟨lp1, p10, fp1⟩ := bx1 P1
  obtain ⟨lq1, q10, q11, fq1⟩ := bx2 Q1
  clear lq q0 q1 fq PW QW RW hSv hFv hvars hn
  go_upto_region 3 with (go_at_call 62; refine (specLookupRelation_any HD.out (h1.toExt xw1)).mono ?_; rw [HO.out]; rintro e w3 ⟨u0, u1, F3, rfl, hx3, hS3, hN3, hF3⟩; obtain ⟨A3, c3, rfl, rfl, hI3⟩ := sRel_form hS3)
  refine wp_name ?_
  intro w2 hw2
  have x32 : ∃ y, w2 = ext w3 y := by rw [hw2.out]; exact (by refine x'z ?_; repeat (with_reducible (first | exact x'a _ _ | exact x'b _ | exact x'c (by assumption) | refine x'd ?_ (by assumption) | refine x'e ?_ _ | refine x'f ?_ _ | refine x'g ?_ | refine x'h ?_ ?_ _ | refine x'i ?_ _ | refine x'j ?_ | refine x'k ?_ _ | refine x'l ?_ _ _ | refine x'm ?_ | assumption | (refine x'n ?_; omega) | omega)))
  have X2 : BoxAt w2 w3.heap.size #[.int .i64 (o.getD (0, [])).1, .slice A3 (o.getD (0, [])).2.length c3] := by rw [hw2.out]; exact (by repeat (with_reducible (first | assumption | exact BoxAt.new _ _ _ | apply BoxAt.set2 | refine BoxAt.set2' ?_ (by omega) | apply BoxAt.setP0 | apply BoxAt.setP1 | refine BoxAt.setO ?_ (by omega) | refine BoxAt.alloc ?_ _ | refine BoxAt.drew ?_ | refine BoxAt.toExt ?_ (by assumption))))
  obtain ⟨bX, qX⟩ : ∃ b, w3.heap.size = b := ⟨_, rfl⟩
  rw [qX] at X2 ⊢
  have hbX : w.heap.size + 1 + 1 < bX := by have := (R1.toExt hx3).1; omega
  clear hw2 qX
  go_upto_region 4 with fail
  refine wp_name ?_
  intro w4 hw4
  have x24' : ∃ y, w4 = ext w2 y := by rw [hw4.out]; exact (by refine x'z ?_; repeat (with_reducible (first | exact x'a _ _ | exact x'b _ | exact x'c (by assumption) | refine x'd ?_ (by assumption) | refine x'e ?_ _ | refine x'f ?_ _ | refine x'g ?_ | refine x'h ?_ ?_ _ | refine x'i ?_ _ | refine x'j ?_ | refine x'k ?_ _ | refine x'l ?_ _ _ | refine x'm ?_ | assumption | (refine x'n ?_; omega) | omega)))
  have O4 : BoxAt w4 w2.heap.size #[.int .i64 n, .slice none 0 0] := by rw [hw4.out, ← HNN.out]; exact (by repeat (with_reducible (first | assumption | exact BoxAt.new _ _ _ | apply BoxAt.set2 | refine BoxAt.set2' ?_ (by omega) | apply BoxAt.setP0 | apply BoxAt.setP1 | refine BoxAt.setO ?_ (by omega) | refine BoxAt.alloc ?_ _ | refine BoxAt.drew ?_ | refine BoxAt.toExt ?_ (by assumption))))
  have x34 := trans_ext x32 x24'
  have x14 := trans_ext hx3 x34
  have xw4 := trans_ext xw1 x14
  have X4 := X2.toExt x24'
  have Q4 := Q1.toExt x14
  have R4 := R1.toExt x14
  have rv4 := rv.toExt x14
  have rk4 : RII w4 A3 (o.getD (0, [])).2 := ((vII_get (sII_v _ _ _ hI3)).2).toExt x34
  obtain ⟨lo4, o40, o41, fo4⟩ := bx2 O4
  obtain ⟨lx4, x40, x41, fx4⟩ := bx2 X4
  obtain ⟨lq4, q40, q41, fq4⟩ := bx2 Q4
  obtain ⟨lr4, r40, r41, fr4⟩ := bx2 R4
  clear hw4 hS3 hI3 hN3 hF3 lp1 p10 fp1 lq1 q10 q11 fq1 P1 Q1 R1 rv X2
  cases o with
  | none =>
    have HZ := Lib.hid (HZ1.out HO.out)
    go_wp2_with fail
    refine bodyPost_ret (v := .agg #[.int .i64 n, .slice none 0 0]) (by simp [results, Tryz.results68, go_sem, *]) rfl ⟨_, _, [], rfl, (by refine x'z ?_; repeat (with_reducible (first | exact x'a _ _ | exact x'b _ | exact x'c (by assumption) | refine x'd ?_ (by assumption) | refine x'e ?_ _ | refine x'f ?_ _ | refine x'g ?_ | refine x'h ?_ ?_ _ | refine x'i ?_ _ | refine x'j ?_ | refine x'k ?_ _ | refine x'l ?_ _ _ | refine x'm ?_ | assumption | (refine x'n ?_; omega) | omega))), ?_, by simp, by simp⟩
    rw [HZ.out]
    exact sRel_mk (F := []) ⟨_, rfl, SV.nil⟩
  | some r =>
    simp only [Option.getD_some, Option.isSome_some] at x40 x41 rk4 X4 ⊢
    have h2r := h2.toExt xw4
    by_cases hr : r.1 = (a.2.length : Int)
    · have hne : (r.1 != (a.2.length : Int)) = false := by simpa using hr
      obtain ⟨k1, k2, k3, k4, k5⟩ := look_ok HO.out hr
      have HL5 := Lib.hid k5
      have HNW := Lib.hid (show newR n (fitRS a.2 r.2) = some (atomBd d a) by rw [← k2]; exact HNW.out k1)
      have hx9 : a.2.length ≤ 1000000000 := by omega
      have hvl9 : vars.length ≤ 1000000000 := by omega
      have HVM : Hid (∀ v ∈ vars, v ∈ a.2) := Lib.hid (fun v hv => (HAV.out v hv).2.2)
      have hE0 : SV 26 1 sRow (w4.alloc (.cells #[] 26)) (.slice (some ⟨w4.heap.size, 0, none⟩) 0 0) [] [w4.heap.size] := SV.empty w4
      clear hr k1 k2 k5
      go_wp2_with fail
      clear lo4 o40 o41 fo4 lx4 x40 x41 fx4 lq4 q40 q41 fq4 lr4 r40 r41 fr4 h2r
      go_loopw [9, 10] (fun v i wr => ∃ (k : Nat) (F : List Nat), i = .int .i64 k ∧ k ≤ r.2.length ∧ SV 26 1 sRow wr v (fitRS a.2 (r.2.take k)) F ∧ Hid F.Nodup ∧ Hid (∀ x ∈ F, w4.heap.size ≤ x) ∧ ∃ y, wr = ext w4 y) (fun _ i _ => r.2.length - (intOf i).toNat)
      case atStart => exact ⟨0, _, rfl, by omega, by simpa [fitRS] using hE0, Lib.hid (by simp), Lib.hid (by simp), alloc_ext _ _⟩
      case round =>
        obtain ⟨k, F, rfl, hk, hS, HN, HF, hy⟩ := hrel
        have X5 := X4.toExt hy
        have Q5 := Q4.toExt hy
        obtain ⟨lx5, x50, x51, fx5⟩ := bx2 X5
        by_cases hlt : k < r.2.length
        · obtain ⟨br, orr, A5, c5, rfl, hbr, hcr, hvr⟩ := (rk4.toExt hy).atV hlt
          have lr := HL5.out _ (List.getElem_mem hlt)
          have hst := HFS.out r.2 k hlt
          have hlk := fitRS_len (xs := a.2) (rows := r.2) (k := k)
          obtain ⟨row, hrow⟩ : ∃ x, r.2[k] = x := ⟨_, rfl⟩
          rw [hrow] at hcr hvr lr hst
          obtain ⟨fl, hfl⟩ : ∃ l, fitRS a.2 (r.2.take k) = l := ⟨_, rfl⟩
          rw [hfl] at hst hlk hS
          have HST := Lib.hid hst
          have HS := Lib.hid hS
          have HSlt := Lib.hid hS.lt
          have HLR := Lib.hid lr
          have HCR := Lib.hid hcr
          have HFA := Lib.hid (fitS_all (vars := vars) lr)
          have hE3 := SV.empty (α := Int) (te := 3) (size := 1) (E := sI) wr
          have hw5 := trans_ext xw4 hy
          have h2r := h2.toExt hw5
          have rvr := rv4.toExt hy
          obtain ⟨lq5, q50, q51, fq5⟩ := bx2 Q5
          have hbr0 := hbr
          clear hrow hfl lr hst hS
          obtain ⟨wo, rfl⟩ : ∃ wo : World, wo = wr := ⟨_, rfl⟩
          go_wp2_with fail
          go_loopw [11, 12] (fun v j wq => ∃ (k3 : Nat) (F3 : List Nat), j = .int .i64 k3 ∧ k3 ≤ vars.length ∧ SV 3 1 sI wq v ((vars.take k3).map (valAt a.2 row)) F3 ∧ Hid (∀ x ∈ F3, wo.heap.size ≤ x) ∧ ∃ y, wq = ext wo y) (fun _ j _ => vars.length - (intOf j).toNat)
          case atStart => exact ⟨0, _, rfl, by omega, by simpa using hE3, Lib.hid (by simp), alloc_ext _ _⟩
          case round =>
            obtain ⟨k3, F3, rfl, hk3, hS3, HF3, hy3⟩ := hrel
            by_cases hlt3 : k3 < vars.length
            · obtain ⟨bu, ou, rfl, hbu, hcu⟩ := rvr.atI hlt3
              have hmem := HVM.out _ (List.getElem_mem hlt3)
              have Ht := Lib.hid (mapt_step (xs := a.2) (row := row) hlt3)
              have hlk3 : ((vars.take k3).map (valAt a.2 row)).length + 1 ≤ 2000000000 := by simp; omega
              obtain ⟨v, hv⟩ : ∃ v, vars[k3] = v := ⟨_, rfl⟩
              rw [hv] at hcu hmem Ht
              obtain ⟨p, hp1, hp2, hp3⟩ := iof_at (r := row) hmem
              obtain ⟨bs', os', rfl, hbs', hcs'⟩ := hvr.atI' (n := p) (by rw [HLR.out]; exact hp1)
              have hq4 : (p : Int) < (row.length : Int) := by rw [HLR.out]; omega
              obtain ⟨x, hx8⟩ : ∃ x, row.getD p 0 = x := ⟨_, rfl⟩
              rw [hx8] at hcs' hp3
              rw [hp3] at Ht
              have HI := Lib.hid hp2
              clear hv hmem hp2 hp3 hx8
              go_wp2_with fail
              go_region_held3 (fun w' => (∀ a : Addr, a.block < wo.heap.size → w'.cell? a = wo.cell? a) ∧ ∃ y, w' = ext wo y) (first | exact heldE (hC'.isExt (by refine x'z ?_; repeat (with_reducible (first | exact x'a _ _ | exact x'b _ | exact x'c (by assumption) | refine x'd ?_ (by assumption) | refine x'e ?_ _ | refine x'f ?_ _ | refine x'g ?_ | refine x'h ?_ ?_ _ | refine x'i ?_ _ | refine x'j ?_ | refine x'k ?_ _ | refine x'l ?_ _ _ | refine x'm ?_ | assumption | (refine x'n ?_; omega) | omega))) HF3.out) | exact heldE (by refine x'z ?_; repeat (with_reducible (first | exact x'a _ _ | exact x'b _ | exact x'c (by assumption) | refine x'd ?_ (by assumption) | refine x'e ?_ _ | refine x'f ?_ _ | refine x'g ?_ | refine x'h ?_ ?_ _ | refine x'i ?_ _ | refine x'j ?_ | refine x'k ?_ _ | refine x'l ?_ _ _ | refine x'm ?_ | assumption | (refine x'n ?_; omega) | omega)))) (first
                | (go_at_call 89; refine (l7Find_any hx9 (h2r.toExt (by refine x'z ?_; repeat (with_reducible (first | exact x'a _ _ | exact x'b _ | exact x'c (by assumption) | refine x'd ?_ (by assumption) | refine x'e ?_ _ | refine x'f ?_ _ | refine x'g ?_ | refine x'h ?_ ?_ _ | refine x'i ?_ _ | refine x'j ?_ | refine x'k ?_ _ | refine x'l ?_ _ _ | refine x'm ?_ | assumption | (refine x'n ?_; omega) | omega))))).mono ?_; rintro e w13 ⟨rfl, hx13⟩; rw [HI.out])
                | (refine step_app1 (E := sI) (d := x) (by rfl) _ _ _ (by rfl) tI (by rfl) (by rfl) (by rfl) (by simp) (fun _ => ⟨rfl, rfl⟩) (by rfl) (by simp [Value.oneCell']) (hS3.toExt (by refine x'z ?_; repeat (with_reducible (first | exact x'a _ _ | exact x'b _ | exact x'c (by assumption) | refine x'd ?_ (by assumption) | refine x'e ?_ _ | refine x'f ?_ _ | refine x'g ?_ | refine x'h ?_ ?_ _ | refine x'i ?_ _ | refine x'j ?_ | refine x'k ?_ _ | refine x'l ?_ _ _ | refine x'm ?_ | assumption | (refine x'n ?_; omega) | omega)))) hlk3 (by omega) ?_; intro v' w' F' hS' hC' hF'))
              all_goals
                have hyz13 : ∃ y, w13 = ext wo y := (by refine x'z ?_; repeat (with_reducible (first | exact x'a _ _ | exact x'b _ | exact x'c (by assumption) | refine x'd ?_ (by assumption) | refine x'e ?_ _ | refine x'f ?_ _ | refine x'g ?_ | refine x'h ?_ ?_ _ | refine x'i ?_ _ | refine x'j ?_ | refine x'k ?_ _ | refine x'l ?_ _ _ | refine x'm ?_ | assumption | (refine x'n ?_; omega) | omega)))
                go_wp2
                exact ⟨⟨k3 + 1, F', by go_num, by omega, by rw [Ht.out]; exact hS', Lib.hid (newer HF3.out (size_of_ext hyz13) hF'), hC'.isExt hyz13 HF3.out⟩, by simp [intOf]; omega⟩
            · rw [show vars.take k3 = vars from List.take_of_length_le (by omega)] at hS3
              have HVM2 := Lib.hid (fun v (hv : v ∈ vars) => valAt_map (va := vars) (g := valAt a.2 row) hv)
              have hnl : (vars.map (valAt a.2 row)).length = vars.length := by simp
              obtain ⟨nr, hnr⟩ : ∃ l, vars.map (valAt a.2 row) = l := ⟨_, rfl⟩
              rw [hnr] at hS3 hnl HVM2
              have HNR := Lib.hid hnr
              have HNL := Lib.hid hnl
              obtain ⟨A9, c9, rfl, _, _⟩ := hS3.form
              have hv9 := hS3.toView sI_v
              obtain ⟨w5, rfl⟩ : ∃ w5 : World, w5 = wr := ⟨_, rfl⟩
              have HS3 := Lib.hid hS3
              clear hnr hnl lx5 x50 x51 fx5 lq5 q50 q51 fq5 hS3 hcr hbr
              go_wp2_with fail
              have hyo := hy3
              go_loopw [13, 14] (fun f i wq => ∃ (j : Nat), i = .int .i64 j ∧ j ≤ a.2.length ∧ f = .bool (fitS vars a.2 row j) ∧ ∃ y, wq = ext w5 y) (fun _ i _ => a.2.length - (intOf i).toNat)
              case atStart => exact ⟨0, rfl, by omega, rfl, refl_ext w5⟩
              case round =>
                obtain ⟨j, rfl, hj, rfl, hy5⟩ := hrel
                have hyo5 := trans_ext hyo hy5
                obtain ⟨lq5, q50, q51, fq5⟩ := bx2 (Q5.toExt hyo5)
                by_cases hlt2 : j < a.2.length
                · obtain ⟨bv, ov, rfl, hbv, hcv⟩ := (h2r.toExt hyo5).atI' (n := j) hlt2
                  obtain ⟨br', or', rfl, hbr', hcr'⟩ := (hvr.toExt hyo5).atI' (n := j) (by rw [HLR.out]; exact hlt2)
                  have hfs := fitS_step (vars := vars) (xs := a.2) (row := row) (k := j)
                  have hjl : (j : Int) < (row.length : Int) := by rw [HLR.out]; omega
                  have hrr := rvr.toExt hyo5
                  have hcr5 := cellW hyo5 hbr0 HCR.out
                  have hbr5 := ltW hyo5 hbr0
                  obtain ⟨lx5, x50, x51, fx5⟩ := bx2 (X5.toExt hyo5)
                  obtain ⟨v, hv⟩ : ∃ v, a.2.getD j 0 = v := ⟨_, rfl⟩
                  obtain ⟨z, hz9⟩ : ∃ z, row.getD j 0 = z := ⟨_, rfl⟩
                  obtain ⟨fj, hfj⟩ : ∃ f, fitS vars a.2 row j = f := ⟨_, rfl⟩
                  rw [hv] at hcv hfs
                  rw [hz9] at hcr' hfs
                  rw [hfj] at hfs ⊢
                  have HFJ := Lib.hid hfs
                  clear hv hz9 hfj hfs
                  by_cases hm : v ∈ vars
                  · obtain ⟨p, hp1, hp2, hp3⟩ := iof_at (r := nr) hm
                    have hvm := HVM2.out v hm
                    obtain ⟨b9, o9, rfl, hb9, hc9⟩ := (hv9.toExt hy5).atI' (n := p) (by rw [HNL.out]; exact hp1)
                    have hpl : (p : Int) < (nr.length : Int) := by rw [HNL.out]; omega
                    obtain ⟨x, hx8⟩ : ∃ x, nr.getD p 0 = x := ⟨_, rfl⟩
                    rw [hx8] at hc9 hp3
                    rw [hp3] at hvm
                    have HI := Lib.hid hp2
                    have hpz : (0 : Int) ≤ (p : Int) := by omega
                    by_cases hxz : x = z
                    · have hbe : (x == z) = true := by simpa using hxz
                      have HFN := Lib.hid (show fitS vars a.2 row (j + 1) = fj by rw [HFJ.out, ← hvm, decide_eq_true hm, decide_eq_true hxz]; simp)
                      clear hvm hm hp2 hp3 hx8 hxz
                      cases fj
                      all_goals
                        go_upto_region 20 with (go_at_call 89; refine (l7Find_any hvl9 hrr).mono ?_; rintro e w6 ⟨rfl, hx6⟩; rw [HI.out]; have hc9 := cellW hx6 hb9 hc9; have hb9 := ltW hx6 hb9; have hcr' := cellW hx6 hbr' hcr'; have hbr' := ltW hx6 hbr'; have hcr5 := cellW hx6 hbr5 hcr5; have hbr5 := ltW hx6 hbr5; obtain ⟨lx6, x60, x61, fx6⟩ := bx2 (X5.toExt (trans_ext hyo5 hx6)))
                        go_wp2_with fail
                        refine wp_region_ext (by kernel_rfl) (by kernel_rfl) ?_
                        repeat (go_big_quiet_step (fail))
                        refine wpQuiet_nil ?_
                        rintro _ ⟨zz, rfl⟩
                        go_wp2
                        exact ⟨⟨j + 1, by go_num, by omega, by rw [HFN.out], trans_ext (trans_ext hy5 hx6) ⟨_, rfl⟩⟩, by simp [intOf]; omega⟩
                    · have hbe : (x == z) = false := by simpa using hxz
                      have HFN := Lib.hid (show fitS vars a.2 row (j + 1) = false by rw [HFJ.out, ← hvm, decide_eq_false hxz]; simp)
                      clear hvm hm hp2 hp3 hx8 hxz
                      cases fj
                      all_goals
                        go_upto_region 20 with (go_at_call 89; refine (l7Find_any hvl9 hrr).mono ?_; rintro e w6 ⟨rfl, hx6⟩; rw [HI.out]; have hc9 := cellW hx6 hb9 hc9; have hb9 := ltW hx6 hb9; have hcr' := cellW hx6 hbr' hcr'; have hbr' := ltW hx6 hbr'; have hcr5 := cellW hx6 hbr5 hcr5; have hbr5 := ltW hx6 hbr5; obtain ⟨lx6, x60, x61, fx6⟩ := bx2 (X5.toExt (trans_ext hyo5 hx6)))
                        go_wp2_with fail
                        refine wp_region_ext (by kernel_rfl) (by kernel_rfl) ?_
                        repeat (go_big_quiet_step (fail))
                        refine wpQuiet_nil ?_
                        rintro _ ⟨zz, rfl⟩
                        go_wp2
                        exact ⟨⟨j + 1, by go_num, by omega, by rw [HFN.out], trans_ext (trans_ext hy5 hx6) ⟨_, rfl⟩⟩, by simp [intOf]; omega⟩
                  · have HI := Lib.hid (iof_none (k := 0) hm)
                    have HFN := Lib.hid (show fitS vars a.2 row (j + 1) = false by rw [HFJ.out, decide_eq_false hm]; simp)
                    clear hm
                    cases fj
                    all_goals
                      go_upto_region 20 with (go_at_call 89; refine (l7Find_any hvl9 hrr).mono ?_; rintro e w6 ⟨rfl, hx6⟩; rw [HI.out])
                      go_wp2_with fail
                      refine wp_region_ext (by kernel_rfl) (by kernel_rfl) ?_
                      repeat (go_big_quiet_step (fail))
                      refine wpQuiet_nil ?_
                      rintro _ ⟨zz, rfl⟩
                      go_wp2
                      exact ⟨⟨j + 1, by go_num, by omega, by rw [HFN.out], trans_ext (trans_ext hy5 hx6) ⟨_, rfl⟩⟩, by simp [intOf]; omega⟩
                · obtain rfl : j = a.2.length := by omega
                  rw [HFA.out]
                  obtain ⟨t, ht⟩ : ∃ t, (rowFit a.2 row && a.2.all fun v => decide (v ∈ vars)) = t := ⟨_, rfl⟩
                  rw [ht] at HST ⊢
                  have hSo := HS.out.toExt hyo5
                  have hy4' := trans_ext hy hyo5
                  clear ht
                  cases t with
                  | false =>
                    have HK := Lib.hid (show fitRS a.2 (r.2.take (k + 1)) = fl by rw [HST.out]; simp)
                    go_wp2
                    exact ⟨⟨k + 1, F, by go_num, by omega, by rw [HK.out]; exact hSo, HN, HF, hy4'⟩, by simp [intOf]; omega⟩
                  | true =>
                    have HK := Lib.hid (show fitRS a.2 (r.2.take (k + 1)) = fl ++ [nr] by rw [HST.out, if_pos rfl, HNR.out])
                    have hS39 := HS3.out.toExt hy5
                    have hN3 := nodup_more HN.out HS3.out.nodup HSlt.out HF3.out
                    have hlk2 : fl.length + 1 ≤ 2000000000 := by omega
                    go_wp2_with (at_builtin; refine wpList_appN (E := sRow) (d := nr) (G := F3) rfl _ _ _ rfl tIIr rfl rfl rfl (by simp) ⟨_, rfl, hS39⟩ rfl (by simp [Value.oneCell']) hSo hN3 hlk2 (by omega) ?_; intro v' w' F' hS' hC' hN' hF')
                    refine ⟨⟨k + 1, F', by go_num, by omega, by rw [HK.out]; exact hS', Lib.hid hN', Lib.hid (fun b hb => ?_), hC'.isExt hy4' HF.out⟩, by simp [intOf]; omega⟩
                    have hzw := size_of_ext hy
                    have hzv := size_of_ext hyo5
                    rcases hF' b hb with h | h | h
                    · exact HF.out b h
                    · have := HF3.out b h; omega
                    · omega
        · obtain rfl : k = r.2.length := by omega
          rw [List.take_of_length_le (Nat.le_refl _)] at hS
          have hlk := fitRS_len (xs := a.2) (rows := r.2) (k := r.2.length)
          rw [List.take_of_length_le (Nat.le_refl _)] at hlk
          have HLE := Lib.hid (fun x (hx : x ∈ fitRS a.2 r.2) => show x.length ≤ 1000000000 by rw [HFE.out r.2 x hx]; omega)
          obtain ⟨fl, hfl⟩ : ∃ l, fitRS a.2 r.2 = l := ⟨_, rfl⟩
          rw [hfl] at hS hlk HLE HNW
          obtain ⟨A7, c7, rfl, hc7, _, rv7⟩ := hS.view (V := vSl 1 vI) (sSl_v sI_v)
          obtain ⟨D, hD⟩ : ∃ D, atomBd d a = D := ⟨_, rfl⟩
          have HDD := Lib.hid hD
          rw [hD] at HNW
          have hjb : fl.length ≤ 1000000000 := by omega
          have R7 := R4.toExt hy
          have HNN2 := Lib.hid HNN.out
          clear hfl hD
          go_wp2_with (go_at_call 90; rw [HNN2.out]; refine (specNewRelation_any hI64 hjb hc7 HLE.out rv7).mono ?_; rw [HNW.out]; rintro e w8 ⟨u0, u1, F8, rfl, hx8, hS8, hN8, hF8⟩; obtain ⟨A8, c8, rfl, rfl, _⟩ := sRel_form hS8; obtain ⟨lr8, r80, r81, fr8⟩ := bx2 (R7.toExt hx8))
          have hz4 := size_of_ext hy
          have hz14 := size_of_ext x14
          have hzw := size_of_ext xw1
          have hzR := R7.1
          refine bodyPost_ret (v := .agg #[.int .i64 D.1, .slice A8 D.2.length c8]) (by simp [results, Tryz.results68, go_sem, *]) rfl ⟨_, _, F8, rfl, (by refine x'z ?_; repeat (with_reducible (first | exact x'a _ _ | exact x'b _ | exact x'c (by assumption) | refine x'd ?_ (by assumption) | refine x'e ?_ _ | refine x'f ?_ _ | refine x'g ?_ | refine x'h ?_ ?_ _ | refine x'i ?_ _ | refine x'j ?_ | refine x'k ?_ _ | refine x'l ?_ _ _ | refine x'm ?_ | assumption | (refine x'n ?_; omega) | omega))), ?_, hN8, fun b hb => ?_⟩
          · rw [HDD.out]
            have hS9 : sRel w8 [.int .i64 D.1, .slice A8 D.2.length c8] D F8 := hS8
            refine OD.chg (E := sRel) (G := [w.heap.size + 1 + 1]) hS9 (by repeat (with_reducible (first | exact Chg.refl _ _ | refine Chg.trans0 ?_ (by assumption) | refine Chg.extS ?_ _ | refine Chg.alloc ?_ _ | refine Chg.drew ?_ | refine Chg.setCell ?_ (.inl (by simp)) _))) ?_
            intro b hb h
            have := hF8 b hb
            rw [List.mem_singleton.1 h] at this
            omega
          · have := hF8 b hb
            omega
    · have hne : (r.1 != (a.2.length : Int)) = true := by simpa using hr
      have HZ := Lib.hid (HZ2.out r HO.out hr)
      clear hr
      go_wp2_with fail
      refine bodyPost_ret (v := .agg #[.int .i64 n, .slice none 0 0]) (by simp [results, Tryz.results68, go_sem, *]) rfl ⟨_, _, [], rfl, (by refine x'z ?_; repeat (with_reducible (first | exact x'a _ _ | exact x'b _ | exact x'c (by assumption) | refine x'd ?_ (by assumption) | refine x'e ?_ _ | refine x'f ?_ _ | refine x'g ?_ | refine x'h ?_ ?_ _ | refine x'i ?_ _ | refine x'j ?_ | refine x'k ?_ _ | refine x'l ?_ _ _ | refine x'm ?_ | assumption | (refine x'n ?_; omega) | omega))), ?_, by simp, by simp⟩
      rw [HZ.out]
      exact sRel_mk (F := []) ⟨_, rfl, SV.nil⟩
end Go.Proofs.YtfigcfajkilhiaaGreat
