/- Contracts of functions that the statements reach, joined from several texts: Proj, Glue, AtomB, BindO, AtomBS, SemiI, AtomR, JoinI, Binds. -/
import Derived.Test.YtfigcfajkilhiaaE04
import Derived.Test.YtfigcfajkilhiaaE02
import Derived.Test.YtfigcfajkilhiaaE05
import Derived.Test.YtfigcfajkilhiaaE07
import Derived.Test.YtfigcfajkilhiaaE03
import Derived.Deep.RegionLaw
import Derived.Deep.DrawnRows
import Derived.Deep.DeepCutAuto
/- Relations projected: the program's way and the reference's. -/
namespace Go.Proofs.Ytfigcfajkilhiaa
open Go.RowKit

def projR (d : Rd) (cols : List Int) : Option Rd := if rowsB d.1 d.2 = true ∧ fitsC d.1 cols = true then newR (cols.length : Int) (d.2.map fun r => pickL r cols) else none
theorem proj_in {a : Int} {rows : List (List Int)} {cols : List Int} (h : rowsB a rows = true) (hf : fitsC a cols = true) : ∀ r ∈ rows, ∀ v ∈ cols, 0 ≤ v ∧ v < r.length := fun r hr v hv => by
  have h1 := ((rowsB_iff.1 h).2.2.2.1 r hr).1
  have h2 := (fitsC_iff.1 hf).2 v hv
  omega
theorem map_take_step {rows : List (List Int)} {cols : List Int} {k : Nat} (h : k < rows.length) : (rows.take (k + 1)).map (fun r => pickL r cols) = (rows.take k).map (fun r => pickL r cols) ++ [pickL rows[k] cols] := by
  rw [List.take_succ_eq_append_getElem h, List.map_append]; rfl
set_option maxRecDepth 100000 in
set_option maxHeartbeats 8000000 in
theorem Project_any {a : Int} {A A' : Option Addr} {c c' : Nat} {rows : List (List Int)} {cols : List Int} {w : World} (ha : I64 a) (hx : rows.length ≤ 1000000000) (hxl : ∀ x ∈ rows, x.length ≤ 1000000000) (h1 : RII w A rows) (hc : cols.length ≤ 1000000000) (h2 : RI w A' cols) :
    Calls Try.prog 80 #[.agg #[.int .i64 a, .slice A rows.length c], .slice A' cols.length c'] w (RelOut (projR (a, rows) cols) w) := by
  obtain ⟨ha1, ha2⟩ := ha
  have Hxl := Lib.hid hxl
  obtain ⟨t, ht⟩ : ∃ t, rowsB a rows = t := ⟨_, rfl⟩
  have HT := Lib.hid ht
  clear hxl ht
  go_enter Try.func80, Try.ntmps80
  go_upto_region 1 with fail
  refine wp_name ?_
  intro W hW
  have xW : ∃ y, W = ext w y := by rw [hW.out]; exact (by refine x'z ?_; repeat (with_reducible (first | exact x'a _ _ | exact x'b _ | exact x'c (by assumption) | refine x'd ?_ (by assumption) | refine x'e ?_ _ | refine x'f ?_ _ | refine x'g ?_ | refine x'h ?_ ?_ _ | refine x'i ?_ _ | refine x'j ?_ | refine x'k ?_ _ | refine x'l ?_ _ _ | refine x'm ?_ | assumption | (refine x'n ?_; omega) | omega)))
  have PW : BoxAt W w.heap.size #[.int .i64 a, .slice A rows.length c] := by rw [hW.out]; exact (by repeat (with_reducible (first | assumption | exact BoxAt.new _ _ _ | apply BoxAt.set2 | refine BoxAt.set2' ?_ (by omega) | apply BoxAt.setP0 | apply BoxAt.setP1 | refine BoxAt.setO ?_ (by omega) | refine BoxAt.alloc ?_ _ | refine BoxAt.drew ?_ | refine BoxAt.toExt ?_ (by assumption))))
  have RW : BoxAt W (w.heap.size + 1) #[.int .i64 0, .slice none 0 0] := by
    rw [hW.out]
    simpa using BoxAt.new (w.alloc (.cells #[.int .i64 a, .slice A rows.length c] 39)) #[.int .i64 0, .slice none 0 0] 39
  obtain ⟨lp, p0, p0', fp⟩ := bx2 PW
  obtain ⟨lr, r0, r0', fr⟩ := bx2 RW
  clear hW
  cases t with
  | false =>
    have HZ := Lib.hid (show projR (a, rows) cols = none by unfold projR; rw [HT.out]; simp)
    go_wp2_with (go_at_call 122; refine (IsValidRelation_w hx Hxl.out (h1.toExt xW)).mono ?_; rintro e w3 ⟨rfl, hx3⟩; rw [HT.out]; obtain ⟨l3, a3, a3', f3⟩ := bx2 (RW.toExt hx3))
    refine bodyPost_ret (v := .tuple #[.agg #[.int .i64 0, .slice none 0 0], .bool false]) (by simp [results, Try.results80, go_sem, *]) rfl (relOut_none HZ.out rfl (by refine x'z ?_; repeat (with_reducible (first | exact x'a _ _ | exact x'b _ | exact x'c (by assumption) | refine x'd ?_ (by assumption) | refine x'e ?_ _ | refine x'f ?_ _ | refine x'g ?_ | refine x'h ?_ ?_ _ | refine x'i ?_ _ | refine x'j ?_ | refine x'k ?_ _ | refine x'l ?_ _ _ | refine x'm ?_ | assumption | (refine x'n ?_; omega) | omega))))
  | true =>
    have hv := rowsB_iff.1 HT.out
    have ha5 := hv.1
    have ha6 := hv.2.1
    obtain ⟨t2, ht2⟩ : ∃ t, fitsC a cols = t := ⟨_, rfl⟩
    have HT2 := Lib.hid ht2
    have HV := Lib.hid hv
    clear ht2 hv
    cases t2 with
    | false =>
      have HZ := Lib.hid (show projR (a, rows) cols = none by unfold projR; rw [HT2.out]; simp)
      go_wp2_with (first
        | (go_at_call 122; refine (IsValidRelation_w hx Hxl.out (h1.toExt xW)).mono ?_; rintro e w3 ⟨rfl, hx3⟩; rw [HT.out]; obtain ⟨l3, a3, a3', f3⟩ := bx2 (RW.toExt hx3); obtain ⟨l4, a4, a4', f4⟩ := bx2 (PW.toExt hx3))
        | (go_at_call 148; refine (columnsFit_any (by omega) (by omega) hc (h2.toExt (trans_ext xW hx3))).mono ?_; rintro e w4 ⟨rfl, rfl⟩; rw [HT2.out]))
      refine bodyPost_ret (v := .tuple #[.agg #[.int .i64 0, .slice none 0 0], .bool false]) (by simp [results, Try.results80, go_sem, *]) rfl (relOut_none HZ.out rfl (by refine x'z ?_; repeat (with_reducible (first | exact x'a _ _ | exact x'b _ | exact x'c (by assumption) | refine x'd ?_ (by assumption) | refine x'e ?_ _ | refine x'f ?_ _ | refine x'g ?_ | refine x'h ?_ ?_ _ | refine x'i ?_ _ | refine x'j ?_ | refine x'k ?_ _ | refine x'l ?_ _ _ | refine x'm ?_ | assumption | (refine x'n ?_; omega) | omega))))
    | true =>
      have HP := Lib.hid (proj_in HT.out HT2.out)
      have hcl := (fitsC_iff.1 HT2.out).1
      go_wp2_with (first
        | (go_at_call 122; refine (IsValidRelation_w hx Hxl.out (h1.toExt xW)).mono ?_; rintro e w3 ⟨rfl, hx3⟩; rw [HT.out]; obtain ⟨l3, a3, a3', f3⟩ := bx2 (RW.toExt hx3); obtain ⟨l4, a4, a4', f4⟩ := bx2 (PW.toExt hx3))
        | (go_at_call 148; refine (columnsFit_any (by omega) (by omega) hc (h2.toExt (trans_ext xW hx3))).mono ?_; rintro e w4 ⟨rfl, rfl⟩; rw [HT2.out]))
      have R3 := RW.toExt hx3
      have hxw3 := trans_ext xW hx3
      have hw3s := R3.1
      clear lp p0 p0' fp lr r0 r0' fr PW RW
      go_loopw [6, 23] (fun v i wr => ∃ (k : Nat) (F : List Nat), i = .int .i64 k ∧ k ≤ rows.length ∧ SV 48 1 sRow wr v ((rows.take k).map fun r => pickL r cols) F ∧ Hid F.Nodup ∧ Hid (∀ b ∈ F, w3.heap.size ≤ b) ∧ (∃ y, wr = ext w3 y)) (fun _ i _ => rows.length - (intOf i).toNat)
      case atStart => exact ⟨0, [], rfl, by omega, SV.nil, Lib.hid (by simp), Lib.hid (by simp), refl_ext w3⟩
      case round =>
        obtain ⟨k, F, rfl, hk, hS, HN, HF, hy⟩ := hrel
        have hyw := trans_ext hxw3 hy
        obtain ⟨l5, a5, a5', f5⟩ := bx2 (R3.toExt hy)
        by_cases hlt : k < rows.length
        · obtain ⟨b, o, A1, c1, rfl, hb, hcl1, hvx⟩ := (h1.toExt hyw).atV hlt
          have hpx := HP.out rows[k] (List.getElem_mem hlt)
          have Ht := Lib.hid (map_take_step (cols := cols) hlt)
          have hlk : ((rows.take k).map fun r => pickL r cols).length + 1 ≤ 2000000000 := by simp; omega
          have hSlt := Lib.hid hS.lt
          obtain ⟨x, hx1⟩ : ∃ x, rows[k] = x := ⟨_, rfl⟩
          rw [hx1] at hcl1 hvx hpx Ht
          obtain ⟨px, hpx2⟩ : ∃ p, pickL x cols = p := ⟨_, rfl⟩
          have HPX := Lib.hid hpx2
          rw [hpx2] at Ht
          have HPI := Lib.hid hpx
          clear hx1 hpx2 hpx
          go_wp2_with (first
            | (go_at_call 150; refine (pick_any hvx hc (h2.toExt hyw) HPI.out).mono ?_; rintro e w1 ⟨v1, F1, rfl, hx1, hS1, hF1⟩; rw [HPX.out] at hS1; obtain ⟨A2, c2, rfl, _, _⟩ := hS1.form; have hN2 := nodup_more HN.out hS1.nodup hSlt.out hF1; have hz1 := size_of_ext hx1)
            | (at_builtin; refine wpList_appN (E := sRow) (d := px) (G := F1) rfl _ _ _ rfl tIIr rfl rfl rfl (by simp) ⟨_, rfl, hS1⟩ rfl (by simp [Value.oneCell']) (hS.toExt hx1) hN2 hlk (by omega) ?_; intro v' w' F' hS' hC' hN' hF'))
          refine ⟨⟨k + 1, F', by go_num, by omega, by rw [Ht.out]; exact hS', Lib.hid hN', Lib.hid (fun b hb => ?_), hC'.isExt (trans_ext hy hx1) HF.out⟩, by simp [intOf]; omega⟩
          have hzw := size_of_ext hy
          rcases hF' b hb with h | h | h
          · exact HF.out b h
          · have := hF1 b h; omega
          · omega
        · rw [List.take_of_length_le (by omega)] at hS
          have HZ := Lib.hid (show projR (a, rows) cols = newR (cols.length : Int) (rows.map fun r => pickL r cols) by unfold projR; rw [if_pos ⟨HT.out, HT2.out⟩])
          obtain ⟨pr, hpr⟩ : ∃ p, (rows.map fun r => pickL r cols) = p := ⟨_, rfl⟩
          have hprl : pr.length ≤ 1000000000 := by rw [← hpr]; simpa using hx
          have Hprx : Hid (∀ x ∈ pr, x.length ≤ 1000000000) := Lib.hid (fun x hx => by
            rw [← hpr] at hx
            obtain ⟨r, _, rfl⟩ := List.mem_map.1 hx
            rw [pickL_length]; exact hc)
          rw [hpr] at hS HZ
          obtain ⟨nr, hnr⟩ : ∃ o, newR (cols.length : Int) pr = o := ⟨_, rfl⟩
          have HNR := Lib.hid hnr
          clear hpr hnr
          obtain ⟨A3, c3, rfl, hc3, _, rv3⟩ := hS.view (V := vSl 1 vI) (sSl_v sI_v)
          go_wp2_with (go_at_call 160; refine (NewRelation_any ⟨by omega, by omega⟩ hprl hc3 Hprx.out rv3).mono ?_; rw [HNR.out]; rintro e w5 ⟨v0, v1, F5, rfl, hx5, hS5, hN5, hF5⟩; obtain ⟨A6, c6, rfl, rfl, hS6⟩ := sRel_form hS5; obtain ⟨l6, a6, a6', f6⟩ := bx2 ((R3.toExt hy).toExt hx5))
          have hzz := size_of_ext (trans_ext hy hx5)
          have hzy := size_of_ext hy
          refine bodyPost_ret (v := .tuple #[.agg #[.int .i64 (nr.getD (0, [])).1, .slice A6 (nr.getD (0, [])).2.length c6], .bool nr.isSome]) (by simp [results, Try.results80, go_sem, *]) rfl ?_
          refine ⟨_, _, F5, by rw [HZ.out, HNR.out], (by refine x'z ?_; repeat (with_reducible (first | exact x'a _ _ | exact x'b _ | exact x'c (by assumption) | refine x'd ?_ (by assumption) | refine x'e ?_ _ | refine x'f ?_ _ | refine x'g ?_ | refine x'h ?_ ?_ _ | refine x'i ?_ _ | refine x'j ?_ | refine x'k ?_ _ | refine x'l ?_ _ _ | refine x'm ?_ | assumption | (refine x'n ?_; omega) | omega))), ?_, hN5, fun b hb => ?_⟩
          · rw [HZ.out, HNR.out]
            refine OD.chg (E := sRel) (G := [w.heap.size + 1]) hS5 (by repeat (with_reducible (first | exact Chg.refl _ _ | refine Chg.trans0 ?_ (by assumption) | refine Chg.extS ?_ _ | refine Chg.alloc ?_ _ | refine Chg.drew ?_ | refine Chg.setCell ?_ (.inl (by simp)) _))) ?_
            intro b hb h
            have := hF5 b hb
            rw [List.mem_singleton.1 h] at this
            omega
          · have := hF5 b hb
            have := size_of_ext hyw
            omega
set_option maxRecDepth 100000 in
set_option maxHeartbeats 8000000 in
theorem specProject_any {a : Int} {A A' : Option Addr} {c c' : Nat} {rows : List (List Int)} {cols : List Int} {w : World} (ha : -1000000000 ≤ a ∧ a ≤ 1000000000) (hx : rows.length ≤ 1000000000) (hxl : ∀ x ∈ rows, x.length ≤ 1000000000) (h1 : RII w A rows) (hc : cols.length ≤ 1000000000) (h2 : RI w A' cols) :
    Calls Try.prog 47 #[.agg #[.int .i64 a, .slice A rows.length c], .slice A' cols.length c'] w (RelOut (projR (a, rows) cols) w) := by
  obtain ⟨ha1, ha2⟩ := ha
  have Hxl := Lib.hid hxl
  obtain ⟨t, ht⟩ : ∃ t, rowsB a rows = t := ⟨_, rfl⟩
  have HT := Lib.hid ht
  clear hxl ht
  go_enter Try.func47, Try.ntmps47
  go_upto_region 1 with fail
  refine wp_name ?_
  intro W hW
  have xW : ∃ y, W = ext w y := by rw [hW.out]; exact (by refine x'z ?_; repeat (with_reducible (first | exact x'a _ _ | exact x'b _ | exact x'c (by assumption) | refine x'd ?_ (by assumption) | refine x'e ?_ _ | refine x'f ?_ _ | refine x'g ?_ | refine x'h ?_ ?_ _ | refine x'i ?_ _ | refine x'j ?_ | refine x'k ?_ _ | refine x'l ?_ _ _ | refine x'm ?_ | assumption | (refine x'n ?_; omega) | omega)))
  have PW : BoxAt W w.heap.size #[.int .i64 a, .slice A rows.length c] := by rw [hW.out]; exact (by repeat (with_reducible (first | assumption | exact BoxAt.new _ _ _ | apply BoxAt.set2 | refine BoxAt.set2' ?_ (by omega) | apply BoxAt.setP0 | apply BoxAt.setP1 | refine BoxAt.setO ?_ (by omega) | refine BoxAt.alloc ?_ _ | refine BoxAt.drew ?_ | refine BoxAt.toExt ?_ (by assumption))))
  have RW : BoxAt W (w.heap.size + 1) #[.int .i64 0, .slice none 0 0] := by
    rw [hW.out]
    simpa using BoxAt.new (w.alloc (.cells #[.int .i64 a, .slice A rows.length c] 39)) #[.int .i64 0, .slice none 0 0] 39
  clear hW
  go_wp2_with fail
  go_loopw [6] (fun i wr => ∃ k : Nat, i = .int .i64 k ∧ k ≤ cols.length ∧ Hid (((cols.drop k).all fun c => inB c 0 (a - 1)) = cols.all fun c => inB c 0 (a - 1)) ∧ ∃ y, wr = ext W y) (fun i _ => cols.length - (intOf i).toNat)
  case atStart => exact ⟨0, rfl, by omega, Lib.hid (by simp), refl_ext W⟩
  case round =>
    obtain ⟨k, rfl, hk, Hj, hy⟩ := hrel
    have hyw := trans_ext xW hy
    obtain ⟨l1, a1, a1', f1⟩ := bx2 (RW.toExt hy)
    obtain ⟨l2, a2, a2', f2⟩ := bx2 (PW.toExt hy)
    by_cases hlt : k < cols.length
    · obtain ⟨b, o, rfl, hb, hc1⟩ := (h2.toExt hyw).atI hlt
      have e := Hj.out
      rw [allR_step hlt] at e
      obtain ⟨n, hn⟩ : ∃ n, cols[k] = n := ⟨_, rfl⟩
      rw [hn] at e hc1
      obtain ⟨t3, ht3⟩ : ∃ t, inB n 0 (a - 1) = t := ⟨_, rfl⟩
      rw [ht3] at e
      have HT3 := Lib.hid ht3
      have He := Lib.hid e
      clear e ht3 hn
      cases t3
      · have HZ := Lib.hid (show projR (a, rows) cols = none by unfold projR fitsC; rw [show (cols.all fun c => inB c 0 (a - 1)) = false by rw [← He.out]; rfl]; simp)
        go_wp2_with fail
        refine wp_region_ext (by kernel_rfl) (by kernel_rfl) ?_
        repeat (go_big_quiet_step ((go_at_call 123; exact quietSb (l1In_any _ _ _ _) HT3.out)))
        refine wpQuiet_nil ?_
        rintro _ ⟨zz, rfl⟩
        go_wp2
        refine bodyPost_ret (v := .tuple #[.agg #[.int .i64 0, .slice none 0 0], .bool false]) (by simp [results, Try.results47, go_sem, *]) rfl (relOut_none HZ.out rfl (by refine x'z ?_; repeat (with_reducible (first | exact x'a _ _ | exact x'b _ | exact x'c (by assumption) | refine x'd ?_ (by assumption) | refine x'e ?_ _ | refine x'f ?_ _ | refine x'g ?_ | refine x'h ?_ ?_ _ | refine x'i ?_ _ | refine x'j ?_ | refine x'k ?_ _ | refine x'l ?_ _ _ | refine x'm ?_ | assumption | (refine x'n ?_; omega) | omega))))
      · go_wp2_with fail
        refine wp_region_ext (by kernel_rfl) (by kernel_rfl) ?_
        repeat (go_big_quiet_step ((go_at_call 123; exact quietSb (l1In_any _ _ _ _) HT3.out)))
        refine wpQuiet_nil ?_
        rintro _ ⟨zz, rfl⟩
        go_wp2
        exact ⟨⟨k + 1, by go_num, by omega, Lib.hid (by simpa using He.out), (by refine x'z ?_; repeat (with_reducible (first | exact x'a _ _ | exact x'b _ | exact x'c (by assumption) | refine x'd ?_ (by assumption) | refine x'e ?_ _ | refine x'f ?_ _ | refine x'g ?_ | refine x'h ?_ ?_ _ | refine x'i ?_ _ | refine x'j ?_ | refine x'k ?_ _ | refine x'l ?_ _ _ | refine x'm ?_ | assumption | (refine x'n ?_; omega) | omega)))⟩, by simp [intOf]; omega⟩
    · have HAL := Lib.hid (show (cols.all fun c => inB c 0 (a - 1)) = true by rw [← Hj.out, allR_end hlt])
      cases t with
      | false =>
        have HZ := Lib.hid (show projR (a, rows) cols = none by unfold projR; rw [HT.out]; simp)
        go_wp2_with (go_at_call 57; refine (specIsValidRelation_w hx Hxl.out (h1.toExt hyw)).mono ?_; rintro e w3 ⟨rfl, hx3⟩; rw [HT.out]; obtain ⟨l3, a3, a3', f3⟩ := bx2 (RW.toExt (trans_ext hy hx3)))
        refine bodyPost_ret (v := .tuple #[.agg #[.int .i64 0, .slice none 0 0], .bool false]) (by simp [results, Try.results47, go_sem, *]) rfl (relOut_none HZ.out rfl (by refine x'z ?_; repeat (with_reducible (first | exact x'a _ _ | exact x'b _ | exact x'c (by assumption) | refine x'd ?_ (by assumption) | refine x'e ?_ _ | refine x'f ?_ _ | refine x'g ?_ | refine x'h ?_ ?_ _ | refine x'i ?_ _ | refine x'j ?_ | refine x'k ?_ _ | refine x'l ?_ _ _ | refine x'm ?_ | assumption | (refine x'n ?_; omega) | omega))))
      | true =>
        by_cases h5 : cols.length ≤ 5
        · have HF2 := Lib.hid (show fitsC a cols = true by unfold fitsC; rw [HAL.out, decide_eq_true h5]; rfl)
          have HP := Lib.hid (proj_in HT.out HF2.out)
          have HV := Lib.hid (rowsB_iff.1 HT.out)
          have hx4 : rows.length ≤ 4000 := HV.out.2.2.1
          go_wp2_with (go_at_call 57; refine (specIsValidRelation_w hx Hxl.out (h1.toExt hyw)).mono ?_; rintro e w3 ⟨rfl, hx3⟩; rw [HT.out]; obtain ⟨l3, a3, a3', f3⟩ := bx2 (RW.toExt (trans_ext hy hx3)); obtain ⟨l4, a4, a4', f4⟩ := bx2 (PW.toExt (trans_ext hy hx3)))
          have R3 := RW.toExt (trans_ext hy hx3)
          have P3 := PW.toExt (trans_ext hy hx3)
          have hxw3 := trans_ext hyw hx3
          have hw3s := R3.1
          have hS0 := SV.empty (α := List Int) (te := 48) (size := 1) (E := sRow) w3
          clear l1 a1 a1' f1 l2 a2 a2' f2 PW RW
          go_loopw [7, 8] (fun v i wr => ∃ (k : Nat) (F : List Nat), i = .int .i64 k ∧ k ≤ rows.length ∧ SV 48 1 sRow wr v ((rows.take k).map fun r => pickL r cols) F ∧ Hid F.Nodup ∧ Hid (∀ b ∈ F, w3.heap.size ≤ b) ∧ (∃ y, wr = ext w3 y)) (fun _ i _ => rows.length - (intOf i).toNat)
          case atStart => exact ⟨0, _, rfl, by omega, hS0, Lib.hid (by simp), Lib.hid (by simp), alloc_ext _ _⟩
          case round =>
            obtain ⟨k, F, rfl, hk, hS, HN, HF, hy⟩ := hrel
            have hyw := trans_ext hxw3 hy
            obtain ⟨l5, a5, a5', f5⟩ := bx2 (R3.toExt hy)
            obtain ⟨l9, a9, a9', f9⟩ := bx2 (P3.toExt hy)
            by_cases hlt : k < rows.length
            · obtain ⟨b, o, A1, c1, rfl, hb, hcl1, hvx⟩ := (h1.toExt hyw).atV hlt
              have hpx := HP.out rows[k] (List.getElem_mem hlt)
              have Ht := Lib.hid (map_take_step (cols := cols) hlt)
              have hlk : ((rows.take k).map fun r => pickL r cols).length + 1 ≤ 2000000000 := by simp; omega
              have hSlt := Lib.hid hS.lt
              obtain ⟨x, hx1⟩ : ∃ x, rows[k] = x := ⟨_, rfl⟩
              rw [hx1] at hcl1 hvx hpx Ht
              obtain ⟨px, hpx2⟩ : ∃ p, pickL x cols = p := ⟨_, rfl⟩
              have HPX := Lib.hid hpx2
              rw [hpx2] at Ht
              have HPI := Lib.hid hpx
              clear hx1 hpx2 hpx
              go_wp2_with (first
                | (go_at_call 119; refine (l5Cols_any hvx hc (h2.toExt hyw) HPI.out).mono ?_; rintro e w1 ⟨v1, F1, rfl, hx1, hS1, hF1⟩; rw [HPX.out] at hS1; obtain ⟨A2, c2, rfl, _, _⟩ := hS1.form; have hN2 := nodup_more HN.out hS1.nodup hSlt.out hF1; have hz1 := size_of_ext hx1)
                | (at_builtin; refine wpList_appN (E := sRow) (d := px) (G := F1) rfl _ _ _ rfl tIIr rfl rfl rfl (by simp) ⟨_, rfl, hS1⟩ rfl (by simp [Value.oneCell']) (hS.toExt hx1) hN2 hlk (by omega) ?_; intro v' w' F' hS' hC' hN' hF'))
              refine ⟨⟨k + 1, F', by go_num, by omega, by rw [Ht.out]; exact hS', Lib.hid hN', Lib.hid (fun b hb => ?_), hC'.isExt (trans_ext hy hx1) HF.out⟩, by simp [intOf]; omega⟩
              have hzw := size_of_ext hy
              rcases hF' b hb with h | h | h
              · exact HF.out b h
              · have := hF1 b h; omega
              · omega
            · rw [List.take_of_length_le (by omega)] at hS
              have HZ := Lib.hid (show projR (a, rows) cols = newR (cols.length : Int) (rows.map fun r => pickL r cols) by unfold projR; rw [if_pos ⟨HT.out, HF2.out⟩])
              obtain ⟨pr, hpr⟩ : ∃ p, (rows.map fun r => pickL r cols) = p := ⟨_, rfl⟩
              have hprl : pr.length ≤ 1000000000 := by rw [← hpr]; simpa using hx
              have Hprx : Hid (∀ x ∈ pr, x.length ≤ 1000000000) := Lib.hid (fun x hx => by
                rw [← hpr] at hx
                obtain ⟨r, _, rfl⟩ := List.mem_map.1 hx
                rw [pickL_length]; exact hc)
              rw [hpr] at hS HZ
              obtain ⟨nr, hnr⟩ : ∃ o, newR (cols.length : Int) pr = o := ⟨_, rfl⟩
              have HNR := Lib.hid hnr
              clear hpr hnr
              obtain ⟨A3, c3, rfl, hc3, _, rv3⟩ := hS.view (V := vSl 1 vI) (sSl_v sI_v)
              go_wp2_with (go_at_call 102; refine (specNewRelation_any ⟨by omega, by omega⟩ hprl hc3 Hprx.out rv3).mono ?_; rw [HNR.out]; rintro e w5 ⟨v0, v1, F5, rfl, hx5, hS5, hN5, hF5⟩; obtain ⟨A6, c6, rfl, rfl, hS6⟩ := sRel_form hS5; obtain ⟨l6, a6, a6', f6⟩ := bx2 ((R3.toExt hy).toExt hx5))
              have hzz := size_of_ext (trans_ext hy hx5)
              have hzy := size_of_ext hy
              have hz5 := size_of_ext hx5
              refine bodyPost_ret (v := .tuple #[.agg #[.int .i64 (nr.getD (0, [])).1, .slice A6 (nr.getD (0, [])).2.length c6], .bool nr.isSome]) (by simp [results, Try.results47, go_sem, *]) rfl ?_
              refine ⟨_, _, F5, by rw [HZ.out, HNR.out], (by refine x'z ?_; repeat (with_reducible (first | exact x'a _ _ | exact x'b _ | exact x'c (by assumption) | refine x'd ?_ (by assumption) | refine x'e ?_ _ | refine x'f ?_ _ | refine x'g ?_ | refine x'h ?_ ?_ _ | refine x'i ?_ _ | refine x'j ?_ | refine x'k ?_ _ | refine x'l ?_ _ _ | refine x'm ?_ | assumption | (refine x'n ?_; omega) | omega))), ?_, hN5, fun b hb => ?_⟩
              · rw [HZ.out, HNR.out]
                refine OD.chg (E := sRel) (G := [w.heap.size + 1]) hS5 (by repeat (with_reducible (first | exact Chg.refl _ _ | refine Chg.trans0 ?_ (by assumption) | refine Chg.extS ?_ _ | refine Chg.alloc ?_ _ | refine Chg.drew ?_ | refine Chg.setCell ?_ (.inl (by simp)) _))) ?_
                intro b hb h
                have := hF5 b hb
                rw [List.mem_singleton.1 h] at this
                omega
              · have := hF5 b hb
                have := size_of_ext hyw
                omega
        · have HZ := Lib.hid (show projR (a, rows) cols = none by unfold projR fitsC; rw [decide_eq_false h5]; simp)
          go_wp2_with (go_at_call 57; refine (specIsValidRelation_w hx Hxl.out (h1.toExt hyw)).mono ?_; rintro e w3 ⟨rfl, hx3⟩; rw [HT.out]; obtain ⟨l3, a3, a3', f3⟩ := bx2 (RW.toExt (trans_ext hy hx3)); obtain ⟨l4, a4, a4', f4⟩ := bx2 (PW.toExt (trans_ext hy hx3)))
          refine bodyPost_ret (v := .tuple #[.agg #[.int .i64 0, .slice none 0 0], .bool false]) (by simp [results, Try.results47, go_sem, *]) rfl (relOut_none HZ.out rfl (by refine x'z ?_; repeat (with_reducible (first | exact x'a _ _ | exact x'b _ | exact x'c (by assumption) | refine x'd ?_ (by assumption) | refine x'e ?_ _ | refine x'f ?_ _ | refine x'g ?_ | refine x'h ?_ ?_ _ | refine x'i ?_ _ | refine x'j ?_ | refine x'k ?_ _ | refine x'l ?_ _ _ | refine x'm ?_ | assumption | (refine x'n ?_; omega) | omega))))
end Go.Proofs.Ytfigcfajkilhiaa

/- Two rows joined that agree on common variables: the program's way. -/
namespace Go.Proofs.Ytfigcfajkilhiaa
open Go.RowKit

def okG (va r vb s : List Int) (v : Int) : Bool := !(decide (v ∈ va) && decide (v ∈ vb)) || decide (valAt va r v = valAt vb s v)
def gval (va r vb s : List Int) (v : Int) : Int := if v ∈ va then valAt va r v else valAt vb s v
def glueO (un va r vb s : List Int) : Option (List Int) := if un.all (okG va r vb s) = true then some (glueR un va r vb s) else none
theorem okG_agree {un va r vb s : List Int} (h : ∀ v, v ∈ un ↔ v ∈ va ∨ v ∈ vb) : un.all (okG va r vb s) = agreeB va r vb s := by
  rw [Bool.eq_iff_iff, List.all_eq_true, agreeB_iff]
  unfold okG
  simp only [Bool.or_eq_true, Bool.not_eq_true', Bool.and_eq_false_iff, decide_eq_false_iff_not, decide_eq_true_eq]
  constructor
  · intro k v h1 h2
    rcases k v ((h v).2 (.inl h1)) with (k | k) | k
    · exact absurd h1 k
    · exact absurd h2 k
    · exact k
  · intro k v hv
    by_cases h1 : v ∈ va
    · by_cases h2 : v ∈ vb
      · exact .inr (k v h1 h2)
      · exact .inl (.inr h2)
    · exact .inl (.inl h1)
theorem iof_none {v : Int} : ∀ {k : Nat} {va : List Int}, v ∉ va → iof k v va = -1
  | _, [], _ => rfl
  | k, x :: va, h => by
    rw [List.mem_cons, not_or] at h
    rw [iof, if_neg (fun e => h.1 e.symm), iof_none h.2]
theorem iof_at {v : Int} {va r : List Int} (h : v ∈ va) : ∃ p : Nat, p < va.length ∧ iof 0 v va = (p : Int) ∧ valAt va r v = r.getD p 0 := by
  obtain ⟨i, h1, h2⟩ := iof_get (k := 0) h
  rw [Nat.zero_add] at h1
  exact ⟨i, (List.getElem?_eq_some_iff.1 h2).1, h1, by unfold valAt; rw [h1, Int.toNat_natCast]⟩
def GluP (o : Option (List Int)) (w : World) (e : Ending) (w' : World) : Prop := ∃ v F, e = .returned (.tuple #[v, .bool o.isSome]) ∧ (∃ y, w' = ext w y) ∧ SV 3 1 sI w' v (o.getD []) F ∧ ∀ b ∈ F, w.heap.size ≤ b
theorem gl_step {un va r vb s : List Int} {k : Nat} (h : k < un.length) : glueR (un.take (k + 1)) va r vb s = glueR (un.take k) va r vb s ++ [gval va r vb s un[k]] := by
  unfold glueR
  rw [List.take_succ_eq_append_getElem h, List.map_append]; rfl
theorem all_step {p : Int → Bool} {un : List Int} {k : Nat} (h : k < un.length) (h1 : (un.take k).all p = true) (h2 : p un[k] = true) : (un.take (k + 1)).all p = true := by
  rw [List.take_succ_eq_append_getElem h, List.all_append, h1]
  simpa using h2
theorem all_fail {p : Int → Bool} {un : List Int} {k : Nat} (h : k < un.length) (h2 : p un[k] = false) : ¬ un.all p = true := by
  intro h1
  rw [List.all_eq_true] at h1
  rw [h1 _ (List.getElem_mem h)] at h2
  cases h2
set_option maxRecDepth 100000 in
set_option maxHeartbeats 8000000 in
theorem glue_any {A B C D E : Option Addr} {a b c d e : Nat} {un va r vb s : List Int} {w : World} (hn : un.length ≤ 1000000) (hu : RI w A un) (hva : va.length ≤ 1000000) (h1 : RI w B va) (hr : r.length = va.length) (h2 : RI w C r) (hvb : vb.length ≤ 1000000) (h3 : RI w D vb) (hs : s.length = vb.length) (h4 : RI w E s) (hun : ∀ v ∈ un, v ∈ va ∨ v ∈ vb) :
    Calls Try.prog 116 #[.slice A un.length a, .slice B va.length b, .slice C r.length c, .slice D vb.length d, .slice E s.length e] w (GluP (glueO un va r vb s) w) := by
  have Hun := Lib.hid hun
  have hr1 : r.length ≤ va.length := by omega
  have hr2 : va.length ≤ r.length := by omega
  have hs1 : s.length ≤ vb.length := by omega
  have hs2 : vb.length ≤ s.length := by omega
  have hS0 := SV.empty (α := Int) (te := 3) (size := 1) (E := sI) w
  clear hr hs hun
  go_enter Try.func116, Try.ntmps116
  go_wp2
  go_loopw [12, 20] (fun v i wr => ∃ (k : Nat) (F : List Nat), i = .int .i64 k ∧ k ≤ un.length ∧ SV 3 1 sI wr v (glueR (un.take k) va r vb s) F ∧ (∀ b ∈ F, w.heap.size ≤ b) ∧ (∃ y, wr = ext w y) ∧ Hid ((un.take k).all (okG va r vb s) = true)) (fun _ i _ => un.length - (intOf i).toNat)
  case atStart => exact ⟨0, _, rfl, by omega, by simpa [glueR] using hS0, by simp, alloc_ext _ _, Lib.hid (by simp)⟩
  case round =>
    obtain ⟨k, F, rfl, hk, hS, hF, hy, Hok⟩ := hrel
    have HF := Lib.hid hF
    clear hF
    by_cases hlt : k < un.length
    · obtain ⟨bu, ou, rfl, hbu, hcu⟩ := (hu.toExt hy).atI hlt
      have hmem := Hun.out _ (List.getElem_mem hlt)
      have Ht := Lib.hid (gl_step (va := va) (r := r) (vb := vb) (s := s) hlt)
      have HOK := Lib.hid (fun h => all_step hlt Hok.out h)
      have HFA := Lib.hid (fun h => all_fail (p := okG va r vb s) hlt h)
      have hlk : (glueR (un.take k) va r vb s).length + 1 ≤ 2000000000 := by simp [glueR]; omega
      obtain ⟨v, hv⟩ : ∃ v, un[k] = v := ⟨_, rfl⟩
      rw [hv] at hcu hmem Ht HOK HFA
      obtain ⟨i, hi⟩ : ∃ i, iof 0 v va = i := ⟨_, rfl⟩
      obtain ⟨j, hj⟩ : ∃ j, iof 0 v vb = j := ⟨_, rfl⟩
      have HI := Lib.hid hi
      have HJ := Lib.hid hj
      go_upto_region 7 with (first
        | (go_at_call 149; with_reducible refine (indexOf_any (xs := va) (by omega) (h1.toExt ?_)).mono ?_; (focus (exact (by refine x'z ?_; repeat (with_reducible (first | exact x'a _ _ | exact x'b _ | exact x'c (by assumption) | refine x'd ?_ (by assumption) | refine x'e ?_ _ | refine x'f ?_ _ | refine x'g ?_ | refine x'h ?_ ?_ _ | refine x'i ?_ _ | refine x'j ?_ | refine x'k ?_ _ | refine x'l ?_ _ _ | refine x'm ?_ | assumption | (refine x'n ?_; omega) | omega))))); rintro e w1 ⟨rfl, hx1⟩; rw [HI.out])
        | (go_at_call 149; with_reducible refine (indexOf_any (xs := vb) (by omega) (h3.toExt ?_)).mono ?_; (focus (exact (by refine x'z ?_; repeat (with_reducible (first | exact x'a _ _ | exact x'b _ | exact x'c (by assumption) | refine x'd ?_ (by assumption) | refine x'e ?_ _ | refine x'f ?_ _ | refine x'g ?_ | refine x'h ?_ ?_ _ | refine x'i ?_ _ | refine x'j ?_ | refine x'k ?_ _ | refine x'l ?_ _ _ | refine x'm ?_ | assumption | (refine x'n ?_; omega) | omega))))); rintro e w2 ⟨rfl, hx2⟩; rw [HJ.out]))
      have hy2 : ∃ y, w2 = ext w y := (by refine x'z ?_; repeat (with_reducible (first | exact x'a _ _ | exact x'b _ | exact x'c (by assumption) | refine x'd ?_ (by assumption) | refine x'e ?_ _ | refine x'f ?_ _ | refine x'g ?_ | refine x'h ?_ ?_ _ | refine x'i ?_ _ | refine x'j ?_ | refine x'k ?_ _ | refine x'l ?_ _ _ | refine x'm ?_ | assumption | (refine x'n ?_; omega) | omega)))
      have hS2 := (hS.toExt hx1).toExt hx2
      by_cases ma : v ∈ va
      · obtain ⟨p, hp1, hp2, hp3⟩ := iof_at (r := r) ma
        rw [hi] at hp2
        obtain ⟨br, or, rfl, hbr, hcr⟩ := (h2.toExt hy2).atI' (n := p) (by omega)
        have hp4 : (p : Int) < (r.length : Int) := by omega
        by_cases mb : v ∈ vb
        · obtain ⟨q, hq1, hq2, hq3⟩ := iof_at (r := s) mb
          rw [hj] at hq2
          obtain ⟨bs', os', rfl, hbs, hcs⟩ := (h4.toExt hy2).atI' (n := q) (by omega)
          have hq4 : (q : Int) < (s.length : Int) := by omega
          have hgv : gval va r vb s v = r.getD p 0 := by unfold gval; rw [if_pos ma, hp3]
          have hok : okG va r vb s v = decide (r.getD p 0 = s.getD q 0) := by unfold okG; rw [decide_eq_true ma, decide_eq_true mb, hp3, hq3]; rfl
          obtain ⟨x, hx⟩ : ∃ x, r.getD p 0 = x := ⟨_, rfl⟩
          obtain ⟨z, hz⟩ : ∃ z, s.getD q 0 = z := ⟨_, rfl⟩
          rw [hx] at hcr hgv hok
          rw [hz] at hcs hok
          rw [hgv] at Ht
          rw [hok] at HOK HFA
          subst hp2 hq2
          clear hi hj hv hmem hp3 hq3 hx hz hgv hok ma mb
          by_cases hxz : x = z
          · have hne : (x != z) = false := by simpa using hxz
            have HOK := Lib.hid (HOK.out (by simpa using hxz))
            clear hxz
            refine wp_region_ext (by kernel_rfl) (by kernel_rfl) ?_
            repeat (go_big_quiet_step (fail))
            refine wpQuiet_nil ?_
            rintro _ ⟨zz, rfl⟩
            have hy1 : ∃ y, ext w2 zz = ext w y := trans_ext hy2 ⟨zz, rfl⟩
            have hS1 := hS2.toExt (⟨zz, rfl⟩ : ∃ y, ext w2 zz = ext w2 y)
            go_wp2_with (at_builtin; refine wpList_app1 (E := sI) (d := x) rfl _ _ _ rfl tI rfl rfl rfl (by simp) (fun _ => ⟨rfl, rfl⟩) rfl (by simp [Value.oneCell']) hS1 hlk (by omega) ?_; intro v' w' F' hS' hC' hF')
            exact ⟨⟨k + 1, F', by go_num, by omega, by rw [Ht.out]; exact hS', newer HF.out (size_of_ext hy1) hF', hC'.isExt hy1 HF.out, Lib.hid HOK.out⟩, by simp [intOf]; omega⟩
          · have hne : (x != z) = true := by simpa using hxz
            have HZ := Lib.hid (show glueO un va r vb s = none by unfold glueO; rw [if_neg (HFA.out (by simpa using hxz))])
            clear hxz
            refine wp_region_ext (by kernel_rfl) (by kernel_rfl) ?_
            repeat (go_big_quiet_step (fail))
            refine wpQuiet_nil ?_
            rintro _ ⟨zz, rfl⟩
            have hy1 : ∃ y, ext w2 zz = ext w y := trans_ext hy2 ⟨zz, rfl⟩
            have hS1 := hS2.toExt (⟨zz, rfl⟩ : ∃ y, ext w2 zz = ext w2 y)
            go_wp2
            go_ret2
            exact ⟨_, [], by rw [HZ.out]; rfl, hy1, by rw [HZ.out]; exact SV.nil, by simp⟩
        · have hgv : gval va r vb s v = r.getD p 0 := by unfold gval; rw [if_pos ma, hp3]
          have hok : okG va r vb s v = true := by unfold okG; rw [decide_eq_false mb]; simp
          have HOK := Lib.hid (HOK.out hok)
          obtain ⟨x, hx⟩ : ∃ x, r.getD p 0 = x := ⟨_, rfl⟩
          rw [hx] at hcr hgv
          rw [hgv] at Ht
          rw [iof_none mb] at hj
          subst hp2 hj
          clear hi hv hmem hp3 hx hgv hok ma mb
          refine wp_region_ext (by kernel_rfl) (by kernel_rfl) ?_
          repeat (go_big_quiet_step (fail))
          refine wpQuiet_nil ?_
          rintro _ ⟨zz, rfl⟩
          have hy1 : ∃ y, ext w2 zz = ext w y := trans_ext hy2 ⟨zz, rfl⟩
          have hS1 := hS2.toExt (⟨zz, rfl⟩ : ∃ y, ext w2 zz = ext w2 y)
          go_wp2_with (at_builtin; refine wpList_app1 (E := sI) (d := x) rfl _ _ _ rfl tI rfl rfl rfl (by simp) (fun _ => ⟨rfl, rfl⟩) rfl (by simp [Value.oneCell']) hS1 hlk (by omega) ?_; intro v' w' F' hS' hC' hF')
          exact ⟨⟨k + 1, F', by go_num, by omega, by rw [Ht.out]; exact hS', newer HF.out (size_of_ext hy1) hF', hC'.isExt hy1 HF.out, Lib.hid HOK.out⟩, by simp [intOf]; omega⟩
      · have mb : v ∈ vb := by
          rcases hmem with h | h
          · exact absurd h ma
          · exact h
        obtain ⟨q, hq1, hq2, hq3⟩ := iof_at (r := s) mb
        rw [hj] at hq2
        obtain ⟨bs', os', rfl, hbs, hcs⟩ := (h4.toExt hy2).atI' (n := q) (by omega)
        have hq4 : (q : Int) < (s.length : Int) := by omega
        have hgv : gval va r vb s v = s.getD q 0 := by unfold gval; rw [if_neg ma, hq3]
        have hok : okG va r vb s v = true := by unfold okG; rw [decide_eq_false ma]; simp
        have HOK := Lib.hid (HOK.out hok)
        obtain ⟨x, hx⟩ : ∃ x, s.getD q 0 = x := ⟨_, rfl⟩
        rw [hx] at hcs hgv
        rw [hgv] at Ht
        rw [iof_none ma] at hi
        subst hq2 hi
        clear hj hv hmem hq3 hx hgv hok ma mb
        refine wp_region_ext (by kernel_rfl) (by kernel_rfl) ?_
        repeat (go_big_quiet_step (fail))
        refine wpQuiet_nil ?_
        rintro _ ⟨zz, rfl⟩
        have hy1 : ∃ y, ext w2 zz = ext w y := trans_ext hy2 ⟨zz, rfl⟩
        have hS1 := hS2.toExt (⟨zz, rfl⟩ : ∃ y, ext w2 zz = ext w2 y)
        go_wp2_with (at_builtin; refine wpList_app1 (E := sI) (d := x) rfl _ _ _ rfl tI rfl rfl rfl (by simp) (fun _ => ⟨rfl, rfl⟩) rfl (by simp [Value.oneCell']) hS1 hlk (by omega) ?_; intro v' w' F' hS' hC' hF')
        exact ⟨⟨k + 1, F', by go_num, by omega, by rw [Ht.out]; exact hS', newer HF.out (size_of_ext hy1) hF', hC'.isExt hy1 HF.out, Lib.hid HOK.out⟩, by simp [intOf]; omega⟩
    · have HZ := Lib.hid (show glueO un va r vb s = some (glueR un va r vb s) by
        unfold glueO
        rw [if_pos (by have := Hok.out; rwa [List.take_of_length_le (by omega)] at this)])
      rw [show un.take k = un from List.take_of_length_le (by omega)] at hS
      go_wp2
      go_ret2
      exact ⟨_, F, by rw [HZ.out]; rfl, hy, by rw [HZ.out]; exact hS, HF.out⟩
end Go.Proofs.Ytfigcfajkilhiaa

/- The bindings of an atom: the program's way. -/
namespace Go.Proofs.Ytfigcfajkilhiaa
open Go.RowKit

/-- a relation handed back, newer than the call -/
def RelRes (d : Rd) (w : World) (e : Ending) (w' : World) : Prop := ∃ v0 v1 F, e = .returned (.agg #[v0, v1]) ∧ (∃ y, w' = ext w y) ∧ sRel w' [v0, v1] d F ∧ F.Nodup ∧ ∀ b ∈ F, w.heap.size ≤ b
theorem atomBd_non {d : Dbd} {a : At} (h : lookD d a.1 = none) : atomBd d a = (((avars 5 0 a.2).length : Int), []) := atomBd_no (fun k => by rw [atFit_look h] at k; cases k.1)
theorem atomBd_ar {d : Dbd} {a : At} {r : Rd} (h : lookD d a.1 = some r) (hr : r.1 ≠ (a.2.length : Int)) : atomBd d a = (((avars 5 0 a.2).length : Int), []) := atomBd_no (fun k => by rw [atFit_look h] at k; exact hr (of_decide_eq_true k.1))
theorem atomBd_out {d : Dbd} {a : At} (h : fitsC 5 a.2 = false) (h5 : a.2.length ≤ 5) : atomBd d a = (((avars 5 0 a.2).length : Int), []) := atomBd_no (fun k => by
  have : fitsC 5 a.2 = true := fitsC_iff.2 ⟨h5, fun v hv => by have := k.2 v hv; omega⟩
  rw [h] at this; cases this)
theorem look_ok {d : Dbd} {a : At} {r : Rd} (h : lookD d a.1 = some r) (hr : r.1 = (a.2.length : Int)) : atFit d a = true ∧ relOf d a = r ∧ a.2.length ≤ 5 ∧ r.2.length ≤ 16 ∧ ∀ x ∈ r.2, x.length = a.2.length := by
  have hf : atFit d a = true := by rw [atFit_look h]; exact decide_eq_true hr
  have hro : relOf d a = r := by unfold relOf; rw [h]; rfl
  have hT := (atFit_some hf).2.1
  rw [hro] at hT
  have hb := rowsB_iff.1 hT.rel
  simp only at hb
  exact ⟨hf, hro, by omega, hT.cnt, fun x hx => by have := (hb.2.2.2.1 x hx).1; omega⟩
theorem pick_n {A A' : Option Addr} {c c' n : Nat} {row cols : List Int} {w : World} (hn : row.length = n) (h1 : RI w A row) (hc : cols.length ≤ 1000000000) (h2 : RI w A' cols) (hb : ∀ v ∈ cols, 0 ≤ v ∧ v < (n : Int)) :
    Calls Try.prog 150 #[.slice A n c, .slice A' cols.length c'] w fun e w' => ∃ v F, e = .returned v ∧ (∃ y, w' = ext w y) ∧ SV 3 1 sI w' v (pickL row cols) F ∧ ∀ b ∈ F, w.heap.size ≤ b := by
  subst hn
  exact pick_any h1 hc h2 hb
set_option maxRecDepth 100000 in
set_option maxHeartbeats 16000000 in
theorem AtomBindings_any {A B : Option Addr} {c e : Nat} {d : Dbd} {a : At} {w : World} (hd : WDb d) (h1 : RV 3 vTb w A d) (hx : a.2.length ≤ 1000000000) (h2 : RI w B a.2) :
    Calls Try.prog 65 #[.agg #[.slice A d.length c], .agg #[.string a.1, .slice B a.2.length e]] w (RelRes (atomBd d a) w) := by
  have HD := Lib.hid hd
  have hav5 := avars_length 5 0 a.2
  have HZ1 := Lib.hid (fun h => atomBd_non (d := d) (a := a) h)
  have HZ2 := Lib.hid (fun r h hr => atomBd_ar (d := d) (a := a) (r := r) h hr)
  have HZ3 := Lib.hid (fun h h5 => atomBd_out (d := d) (a := a) h h5)
  have HZ4 := Lib.hid (atomBd_yes (d := d) (a := a))
  have HAV := Lib.hid (fun v (hv : v ∈ avars 5 0 a.2) => (mem_avars 5 0 _ v).1 hv)
  have HFS := Lib.hid (fun rows k (hk : k < rows.length) => fitR_step (xs := a.2) (rows := rows) (k := k) hk)
  obtain ⟨o, ho⟩ : ∃ o, lookD d a.1 = o := ⟨_, rfl⟩
  have HO := Lib.hid ho
  clear hd ho
  go_enter Try.func65, Try.ntmps65
  go_upto_region 1 with fail
  refine wp_name ?_
  intro W hW
  have xW : ∃ y, W = ext w y := by rw [hW.out]; exact (by refine x'z ?_; repeat (with_reducible (first | exact x'a _ _ | exact x'b _ | exact x'c (by assumption) | refine x'd ?_ (by assumption) | refine x'e ?_ _ | refine x'f ?_ _ | refine x'g ?_ | refine x'h ?_ ?_ _ | refine x'i ?_ _ | refine x'j ?_ | refine x'k ?_ _ | refine x'l ?_ _ _ | refine x'm ?_ | assumption | (refine x'n ?_; omega) | omega)))
  have PW : BoxAt W w.heap.size #[.slice A d.length c] := by rw [hW.out]; exact (by repeat (with_reducible (first | assumption | exact BoxAt.new _ _ _ | apply BoxAt.set10 | apply BoxAt.set2 | refine BoxAt.set2' ?_ (by omega) | apply BoxAt.setP0 | apply BoxAt.setP1 | refine BoxAt.setO ?_ (by omega) | refine BoxAt.alloc ?_ _ | refine BoxAt.drew ?_ | refine BoxAt.toExt ?_ (by assumption))))
  have QW : BoxAt W (w.heap.size + 1) #[.string a.1, .slice B a.2.length e] := by rw [hW.out]; refine ⟨?_, fun j => ?_, fun j => ?_⟩ <;> go_simp
  have RW : BoxAt W (w.heap.size + 1 + 1) #[.int .i64 0, .slice none 0 0] := by rw [hW.out]; refine ⟨?_, fun j => ?_, fun j => ?_⟩ <;> go_simp
  obtain ⟨lq, q0, q1, fq⟩ := bx2 QW
  clear hW
  go_wp2_with fail
  refine (AtomVariables_any (by omega) (h2.toExt xW)).mono ?_
  rintro e w1 ⟨v1, F1, rfl, hx1, hSv, hFv⟩
  obtain ⟨Av, cv, rfl, _, _, rv⟩ := hSv.view sI_v
  obtain ⟨vars, hvars⟩ : ∃ v, avars 5 0 a.2 = v := ⟨_, rfl⟩
  have HVR := Lib.hid hvars
  rw [hvars] at rv hav5 HZ1 HZ2 HZ3 HZ4 HAV HFS ⊢
  obtain ⟨n, hn⟩ : ∃ n : Int, (vars.length : Int) = n := ⟨_, rfl⟩
  have HNN := Lib.hid hn
  rw [hn] at HZ1 HZ2 HZ3 HZ4
  have P1 := PW.toExt hx1
  have Q1 := QW.toExt hx1
  have R1 := RW.toExt hx1
  have xw1 := trans_ext xW hx1
  obtain ⟨lp1, p10, fp1⟩ := bx1 P1
  obtain ⟨lq1, q10, q11, fq1⟩ := bx2 Q1
  clear lq q0 q1 fq PW QW RW hSv hFv hvars
  go_upto_region 3 with fail
  refine wp_name ?_
  intro w2 hw2
  have x12 : ∃ y, w2 = ext w1 y := by rw [hw2.out]; exact (by refine x'z ?_; repeat (with_reducible (first | exact x'a _ _ | exact x'b _ | exact x'c (by assumption) | refine x'd ?_ (by assumption) | refine x'e ?_ _ | refine x'f ?_ _ | refine x'g ?_ | refine x'h ?_ ?_ _ | refine x'i ?_ _ | refine x'j ?_ | refine x'k ?_ _ | refine x'l ?_ _ _ | refine x'm ?_ | assumption | (refine x'n ?_; omega) | omega)))
  have O2 : BoxAt w2 w1.heap.size #[.int .i64 n, .slice none 0 0] := by rw [hw2.out, ← HNN.out]; exact (by repeat (with_reducible (first | assumption | exact BoxAt.new _ _ _ | apply BoxAt.set2 | refine BoxAt.set2' ?_ (by omega) | apply BoxAt.setP0 | apply BoxAt.setP1 | refine BoxAt.setO ?_ (by omega) | refine BoxAt.alloc ?_ _ | refine BoxAt.drew ?_ | refine BoxAt.toExt ?_ (by assumption))))
  obtain ⟨bO, qO⟩ : ∃ b, w1.heap.size = b := ⟨_, rfl⟩
  have hbO : w.heap.size + 1 + 1 < bO := by have := R1.1; omega
  rw [qO] at O2 ⊢
  have P2 := P1.toExt x12
  have Q2 := Q1.toExt x12
  have R2 := R1.toExt x12
  have xw2 := trans_ext xw1 x12
  have rv2 := rv.toExt x12
  obtain ⟨lp2, p20, fp2⟩ := bx1 P2
  obtain ⟨lq2, q20, q21, fq2⟩ := bx2 Q2
  clear hw2 qO lp1 p10 fp1 lq1 q10 q11 fq1 P1 Q1 R1 hn rv
  go_upto_region 4 with (go_at_call 147; refine (LookupRelation_any HD.out (h1.toExt xw2)).mono ?_; rw [HO.out]; rintro e w3 ⟨u0, u1, F3, rfl, hx3, hS3, hN3, hF3⟩; obtain ⟨A3, c3, rfl, rfl, hI3⟩ := sRel_form hS3)
  refine wp_name ?_
  intro w4 hw4
  have x34 : ∃ y, w4 = ext w3 y := by rw [hw4.out]; exact (by refine x'z ?_; repeat (with_reducible (first | exact x'a _ _ | exact x'b _ | exact x'c (by assumption) | refine x'd ?_ (by assumption) | refine x'e ?_ _ | refine x'f ?_ _ | refine x'g ?_ | refine x'h ?_ ?_ _ | refine x'i ?_ _ | refine x'j ?_ | refine x'k ?_ _ | refine x'l ?_ _ _ | refine x'm ?_ | assumption | (refine x'n ?_; omega) | omega)))
  have X4 : BoxAt w4 w3.heap.size #[.int .i64 (o.getD (0, [])).1, .slice A3 (o.getD (0, [])).2.length c3] := by rw [hw4.out]; exact (by repeat (with_reducible (first | assumption | exact BoxAt.new _ _ _ | apply BoxAt.set2 | refine BoxAt.set2' ?_ (by omega) | apply BoxAt.setP0 | apply BoxAt.setP1 | refine BoxAt.setO ?_ (by omega) | refine BoxAt.alloc ?_ _ | refine BoxAt.drew ?_ | refine BoxAt.toExt ?_ (by assumption))))
  have x24 := trans_ext hx3 x34
  have xw4 := trans_ext xw2 x24
  have O4 := O2.toExt x24
  have Q4 := Q2.toExt x24
  have R4 := R2.toExt x24
  have rv4 := rv2.toExt x24
  have rk4 : RII w4 A3 (o.getD (0, [])).2 := ((vII_get (sII_v _ _ _ hI3)).2).toExt x34
  obtain ⟨lo4, o40, o41, fo4⟩ := bx2 O4
  obtain ⟨lx4, x40, x41, fx4⟩ := bx2 X4
  obtain ⟨lq4, q40, q41, fq4⟩ := bx2 Q4
  obtain ⟨lr4, r40, r41, fr4⟩ := bx2 R4
  clear hw4 hS3 hI3 hN3 hF3 lp2 p20 fp2 lq2 q20 q21 fq2 P2 Q2 R2 O2 rv2 X4
  cases o with
  | none =>
    have HZ := Lib.hid (HZ1.out HO.out)
    go_wp2_with fail
    refine bodyPost_ret (v := .agg #[.int .i64 n, .slice none 0 0]) (by simp [results, Try.results65, go_sem, *]) rfl ⟨_, _, [], rfl, (by refine x'z ?_; repeat (with_reducible (first | exact x'a _ _ | exact x'b _ | exact x'c (by assumption) | refine x'd ?_ (by assumption) | refine x'e ?_ _ | refine x'f ?_ _ | refine x'g ?_ | refine x'h ?_ ?_ _ | refine x'i ?_ _ | refine x'j ?_ | refine x'k ?_ _ | refine x'l ?_ _ _ | refine x'm ?_ | assumption | (refine x'n ?_; omega) | omega))), ?_, by simp, by simp⟩
    rw [HZ.out]
    exact sRel_mk (F := []) ⟨_, rfl, SV.nil⟩
  | some r =>
    simp only [Option.getD_some] at x40 x41 rk4
    have h2r := h2.toExt xw4
    by_cases hr : r.1 = (a.2.length : Int)
    · have hne : (r.1 != (a.2.length : Int)) = false := by simpa using hr
      obtain ⟨k1, k2, k3, k4, k5⟩ := look_ok HO.out hr
      have HL5 := Lib.hid k5
      have HF1 := Lib.hid k1
      have HF2 := Lib.hid k2
      obtain ⟨t, ht⟩ : ∃ t, fitsC 5 a.2 = t := ⟨_, rfl⟩
      have HT := Lib.hid ht
      have hx9 : a.2.length ≤ 1000000000 := by omega
      cases t with
      | false =>
        have HZ := Lib.hid (HZ3.out ht k3)
        clear hr k1 k2 k5 ht
        go_wp2_with (go_at_call 148; refine (columnsFit_any (a := 5) (by omega) (by omega) hx9 h2r).mono ?_; rintro e w5 ⟨rfl, rfl⟩; rw [HT.out])
        refine bodyPost_ret (v := .agg #[.int .i64 n, .slice none 0 0]) (by simp [results, Try.results65, go_sem, *]) rfl ⟨_, _, [], rfl, (by refine x'z ?_; repeat (with_reducible (first | exact x'a _ _ | exact x'b _ | exact x'c (by assumption) | refine x'd ?_ (by assumption) | refine x'e ?_ _ | refine x'f ?_ _ | refine x'g ?_ | refine x'h ?_ ?_ _ | refine x'i ?_ _ | refine x'j ?_ | refine x'k ?_ _ | refine x'l ?_ _ _ | refine x'm ?_ | assumption | (refine x'n ?_; omega) | omega))), ?_, by simp, by simp⟩
        rw [HZ.out]
        exact sRel_mk (F := []) ⟨_, rfl, SV.nil⟩
      | true =>
        have hb04 : ∀ v ∈ a.2, 0 ≤ v ∧ v ≤ 4 := fun v hv => by have := (fitsC_iff.1 ht).2 v hv; omega
        have HB4 := Lib.hid hb04
        have HZ := Lib.hid (show atomBd d a = (n, sortR (fitR a.2 r.2)) by rw [HZ4.out HF1.out hb04, k2])
        have HVC : Hid (∀ v ∈ vars, 0 ≤ v ∧ v < ((5 : Nat) : Int)) := Lib.hid (fun v hv => by have := HAV.out v hv; omega)
        have HVM : Hid (∀ v ∈ vars, v ∈ a.2) := Lib.hid (fun v hv => (HAV.out v hv).2.2)
        clear hr k1 k2 k5 ht hb04
        go_wp2_with (go_at_call 148; refine (columnsFit_any (a := 5) (by omega) (by omega) hx9 h2r).mono ?_; rintro e w5 ⟨rfl, rfl⟩; rw [HT.out])
        clear lo4 o40 o41 fo4 lx4 x40 x41 fx4 lq4 q40 q41 fq4 lr4 r40 r41 fr4 h2r
        go_loopw [9, 49] (fun v i wr => ∃ (k : Nat) (F : List Nat), i = .int .i64 k ∧ k ≤ r.2.length ∧ SV 48 1 sRow wr v (fitR a.2 (r.2.take k)) F ∧ Hid F.Nodup ∧ Hid (∀ x ∈ F, w4.heap.size ≤ x) ∧ ∃ y, wr = ext w4 y) (fun _ i _ => r.2.length - (intOf i).toNat)
        case atStart => exact ⟨0, [], rfl, by omega, by simpa [fitR] using SV.nil, Lib.hid (by simp), Lib.hid (by simp), refl_ext w4⟩
        case round =>
          obtain ⟨k, F, rfl, hk, hS, HN, HF, hy⟩ := hrel
          by_cases hlt : k < r.2.length
          · obtain ⟨br, orr, A5, c5, rfl, hbr, hcr, hvr⟩ := (rk4.toExt hy).atV hlt
            have lr := HL5.out _ (List.getElem_mem hlt)
            have hst := HFS.out r.2 k hlt
            have hlk := fitR_len (xs := a.2) (rows := r.2) (k := k)
            obtain ⟨row, hrow⟩ : ∃ x, r.2[k] = x := ⟨_, rfl⟩
            rw [hrow] at hcr hvr lr hst
            obtain ⟨fl, hfl⟩ : ∃ l, fitR a.2 (r.2.take k) = l := ⟨_, rfl⟩
            rw [hfl] at hst hlk hS
            have HST := Lib.hid hst
            have HS := Lib.hid hS
            have HSlt := Lib.hid hS.lt
            have HLR := Lib.hid lr
            have HVR2 := Lib.hid hvr
            have HFA := Lib.hid (fitI_all lr)
            clear hrow hfl lr hst hS hvr
            go_wp2_with (at_make; refine wpList_makeS (E := sI) (d := 0) (n := 5) _ rfl _ _ _ rfl tI rfl rfl (fun _ => ⟨rfl, rfl⟩) (by omega) (by omega) ?_; intro wm hSm hxm hgm; obtain ⟨lq5, q50, q51, fq5⟩ := bx2 (Q4.toExt (trans_ext hy hxm)))
            obtain ⟨g, hg⟩ : ∃ g, wr.heap.size = g := ⟨_, rfl⟩
            have hgr : wr.heap.size ≤ g := by omega
            rw [hg] at hSm hgm ⊢
            clear lq5 q50 q51 fq5 hg hcr hbr
            obtain ⟨wo, rfl⟩ : ∃ wo : World, wo = wr := ⟨_, rfl⟩
            go_loopw [13, 57] (fun f i wq => ∃ (j : Nat) (L : List Int), i = .int .i64 j ∧ j ≤ a.2.length ∧ f = .bool (fitI a.2 row j) ∧ SV 3 1 sI wq (.slice (some ⟨g, 0, none⟩) 5 5) L [g] ∧ Hid (VOk a.2 row L j) ∧ Chg [g] wm wq) (fun _ i _ => a.2.length - (intOf i).toNat)
            case atStart => exact ⟨0, _, rfl, by omega, rfl, hSm, Lib.hid ⟨by simp, fun _ j hj => by omega⟩, Chg.refl _ _⟩
            case round =>
              obtain ⟨j, L, rfl, hj, rfl, hSL, HVO, hC⟩ := hrel
              have hyo : ∃ y, wr = ext wo y := hC.isExt hxm (by simpa using hgr)
              have hy4 := trans_ext hy hyo
              have Q5 := Q4.toExt hy4
              obtain ⟨lq5, q50, q51, fq5⟩ := bx2 Q5
              by_cases hlt2 : j < a.2.length
              · have hw5 := trans_ext xw4 hy4
                obtain ⟨bv, ov, rfl, hbv, hcv⟩ := (h2.toExt hw5).atI' (n := j) hlt2
                have hb5 := HB4.out _ (List.getElem_mem hlt2)
                have hmem := List.getElem_mem hlt2
                have HVS := Lib.hid (HVO.out.step HB4.out hlt2)
                have hfs := fitI_step (xs := a.2) (row := row) (k := j)
                obtain ⟨br', or', rfl, hbr', hcr'⟩ := (HVR2.out.toExt hyo).atI' (n := j) (by rw [HLR.out]; exact hlt2)
                rw [← getDl a.2 0 hlt2] at hb5 hmem
                obtain ⟨p, hp1, hp2, hp3⟩ := iof_at (r := row) hmem
                obtain ⟨_, _, e9, _, hcp⟩ := (HVR2.out.toExt hyo).atI' (n := p) (by rw [HLR.out]; exact hp1)
                injection e9 with e9
                injection e9 with e9 e10 _
                subst e9 e10
                rw [hp3] at hfs
                obtain ⟨v, hv⟩ : ∃ v, a.2.getD j 0 = v := ⟨_, rfl⟩
                rw [hv] at hcv hb5 hp2 HVS
                obtain ⟨m, rfl⟩ := Int.eq_ofNat_of_zero_le hb5.1
                rw [Int.toNat_natCast] at HVS
                have hm5 : m < 5 := by omega
                have HI := Lib.hid hp2
                have hpl : (p : Int) < (row.length : Int) := by rw [HLR.out]; omega
                have hjl : (j : Int) < (row.length : Int) := by rw [HLR.out]; omega
                obtain ⟨x, hx9'⟩ : ∃ x, row.getD p 0 = x := ⟨_, rfl⟩
                obtain ⟨z, hz9⟩ : ∃ z, row.getD j 0 = z := ⟨_, rfl⟩
                rw [hx9'] at hcp hfs
                rw [hz9] at hcr' hfs HVS
                obtain ⟨fj, hfj⟩ : ∃ f, fitI a.2 row j = f := ⟨_, rfl⟩
                rw [hfj] at hfs ⊢
                have HFJ := Lib.hid hfs
                have HSL := Lib.hid hSL
                have h2r := h2.toExt hw5
                clear hv hb5 hmem hp2 hp3 hx9' hz9 hfj hfs
                go_upto_region 16 with (go_at_call 149; refine (indexOf_any hx9 h2r).mono ?_; rintro e w6 ⟨rfl, hx6⟩; rw [HI.out])
                have hc6 := cellW hx6 hbr' hcp
                have hc6' := cellW hx6 hbr' hcr'
                have hb6 := ltW hx6 hbr'
                have hS6 := HSL.out.toExt hx6
                clear hcp hcr' hbr' hcv hbv lq5 q50 q51 fq5
                by_cases hxz : x = z
                · have hbe : (x == z) = true := by simpa using hxz
                  have HFN := Lib.hid (show fitI a.2 row (j + 1) = fj by rw [HFJ.out, decide_eq_true hxz, Bool.and_true])
                  cases fj
                  all_goals
                    refine wp_region_ext (by kernel_rfl) (by kernel_rfl) ?_
                    repeat (go_big_quiet_step (fail))
                    refine wpQuiet_nil ?_
                    rintro _ ⟨zz, rfl⟩
                    obtain ⟨wz, hwz⟩ : ∃ wz, ext w6 zz = wz := ⟨_, rfl⟩
                    rw [hwz]
                    have x6z : ∃ y, wz = ext w6 y := ⟨zz, hwz.symm⟩
                    have hc7 := cellW x6z hb6 hc6'
                    have hb7 := ltW x6z hb6
                    have hS7 := hS6.toExt x6z
                    have hcell := hS7.cell (by have := HVO.out.1; omega) (j := m) (by omega)
                    obtain ⟨⟨u9, hu9⟩, hf9, hg9⟩ := hcell
                    obtain ⟨s1, s2⟩ := hS7.set1 (by have := HVO.out.1; omega) (k := m) hm5 (u := .int .i64 z) (d := z) (fun _ => ⟨rfl, rfl⟩)
                    have HS1 := Lib.hid s1
                    have HC1 := Lib.hid (((hC.trans0 hx6).trans0 x6z).trans s2 (fun y hy => .inl hy))
                    clear hwz s1 s2 hS7 hc6 hc6' hb6
                    go_wp2
                    exact ⟨⟨j + 1, _, by go_num, by omega, by rw [HFN.out], HS1.out, HVS, HC1.out⟩, by simp [intOf]; omega⟩
                · have hbe : (x == z) = false := by simpa using hxz
                  have HFN := Lib.hid (show fitI a.2 row (j + 1) = false by rw [HFJ.out, decide_eq_false hxz, Bool.and_false])
                  cases fj
                  all_goals
                    refine wp_region_ext (by kernel_rfl) (by kernel_rfl) ?_
                    repeat (go_big_quiet_step (fail))
                    refine wpQuiet_nil ?_
                    rintro _ ⟨zz, rfl⟩
                    obtain ⟨wz, hwz⟩ : ∃ wz, ext w6 zz = wz := ⟨_, rfl⟩
                    rw [hwz]
                    have x6z : ∃ y, wz = ext w6 y := ⟨zz, hwz.symm⟩
                    have hc7 := cellW x6z hb6 hc6'
                    have hb7 := ltW x6z hb6
                    have hS7 := hS6.toExt x6z
                    have hcell := hS7.cell (by have := HVO.out.1; omega) (j := m) (by omega)
                    obtain ⟨⟨u9, hu9⟩, hf9, hg9⟩ := hcell
                    obtain ⟨s1, s2⟩ := hS7.set1 (by have := HVO.out.1; omega) (k := m) hm5 (u := .int .i64 z) (d := z) (fun _ => ⟨rfl, rfl⟩)
                    have HS1 := Lib.hid s1
                    have HC1 := Lib.hid (((hC.trans0 hx6).trans0 x6z).trans s2 (fun y hy => .inl hy))
                    clear hwz s1 s2 hS7 hc6 hc6' hb6
                    go_wp2
                    exact ⟨⟨j + 1, _, by go_num, by omega, by rw [HFN.out], HS1.out, HVS, HC1.out⟩, by simp [intOf]; omega⟩
              · obtain rfl : j = a.2.length := by omega
                rw [HFA.out]
                have HVD := Lib.hid (fun (h : rowFit a.2 row = true) => HVO.out.done (vars := vars) (by rw [HFA.out]; exact h) HVM.out)
                have hL5 : L.length = 5 := HVO.out.1
                have HL5' := Lib.hid hL5
                obtain ⟨t, ht⟩ : ∃ t, rowFit a.2 row = t := ⟨_, rfl⟩
                rw [ht] at HST HVD ⊢
                have hSo := HS.out.toExt hyo
                have hy4' := trans_ext hy hyo
                clear ht hL5 lq5 q50 q51 fq5
                cases t with
                | false =>
                  have HK := Lib.hid (show fitR a.2 (r.2.take (k + 1)) = fl by rw [HST.out]; simp)
                  go_wp2
                  exact ⟨⟨k + 1, F, by go_num, by omega, by rw [HK.out]; exact hSo, HN, HF, hy4'⟩, by simp [intOf]; omega⟩
                | true =>
                  obtain ⟨nr, hnr⟩ : ∃ l, vars.map (valAt a.2 row) = l := ⟨_, rfl⟩
                  have HPK := Lib.hid (show pickL L vars = nr by rw [HVD.out rfl, hnr])
                  have HK := Lib.hid (show fitR a.2 (r.2.take (k + 1)) = fl ++ [nr] by rw [HST.out, if_pos rfl, hnr])
                  have hrL := hSL.toView sI_v
                  have hrv := rv4.toExt hy4'
                  have hFl : ∀ b ∈ F, b < wr.heap.size := fun b hb => Nat.lt_of_lt_of_le (HSlt.out b hb) (size_of_ext hyo)
                  have HFl := Lib.hid hFl
                  have hvl : vars.length ≤ 1000000000 := by omega
                  have hlk2 : fl.length + 1 ≤ 2000000000 := by omega
                  clear hnr hFl
                  go_wp2_with (first
                    | (go_at_call 150; refine (pick_n HL5'.out hrL hvl hrv HVC.out).mono ?_; rw [HPK.out]; rintro e w7 ⟨v7, F7, rfl, hx7, hS7, hF7⟩; obtain ⟨A7, c7, rfl, _, _⟩ := hS7.form; have hN3 := nodup_more HN.out hS7.nodup HFl.out hF7; have hz7 := size_of_ext hx7)
                    | (at_builtin; refine wpList_appN (E := sRow) (d := nr) (G := F7) rfl _ _ _ rfl tIIr rfl rfl rfl (by simp) ⟨_, rfl, hS7⟩ rfl (by simp [Value.oneCell']) (hSo.toExt hx7) hN3 hlk2 (by omega) ?_; intro v' w' F' hS' hC' hN' hF'))
                  refine ⟨⟨k + 1, F', by go_num, by omega, by rw [HK.out]; exact hS', Lib.hid hN', Lib.hid (fun b hb => ?_), hC'.isExt (trans_ext hy4' hx7) HF.out⟩, by simp [intOf]; omega⟩
                  have hzw := size_of_ext hy4'
                  rcases hF' b hb with h | h | h
                  · exact HF.out b h
                  · have := hF7 b h; omega
                  · omega
          · obtain rfl : k = r.2.length := by omega
            rw [List.take_of_length_le (Nat.le_refl _)] at hS
            have hlk := fitR_len (xs := a.2) (rows := r.2) (k := r.2.length)
            rw [List.take_of_length_le (Nat.le_refl _)] at hlk
            have HLE := Lib.hid (fun x (hx : x ∈ fitR a.2 r.2) => show x.length ≤ 1000000000 from Nat.le_trans (fitR_el x hx) (by omega))
            obtain ⟨fl, hfl⟩ : ∃ l, fitR a.2 r.2 = l := ⟨_, rfl⟩
            rw [hfl] at hS hlk HLE HZ
            obtain ⟨A7, c7, rfl, hc7, _, rv7⟩ := hS.view (V := vSl 1 vI) (sSl_v sI_v)
            obtain ⟨sr, hsr⟩ : ∃ s, sortR fl = s := ⟨_, rfl⟩
            have HSR := Lib.hid hsr
            rw [hsr] at HZ
            have hjb : fl.length ≤ 1000000000 := by omega
            have O7 := O4.toExt hy
            have R7 := R4.toExt hy
            obtain ⟨lo7, o70, o71, fo7⟩ := bx2 O7
            clear hfl hsr
            go_wp2_with (go_at_call 126; refine (sorted_any fl.length A7 c7 fl _ (Nat.le_refl _) hjb hc7 HLE.out rv7).mono ?_; rintro e w8 ⟨v8, F8, rfl, hx8, hS8, hN8, hF8⟩; rw [HSR.out] at hS8; obtain ⟨A8, c8, rfl, _, _⟩ := hS8.form; obtain ⟨lr8, r80, r81, fr8⟩ := bx2 (R7.toExt hx8); obtain ⟨lo8, o80, o81, fo8⟩ := bx2 (O7.toExt hx8))
            have hz4 := size_of_ext hy
            have hz24 := size_of_ext x24
            have hzw := size_of_ext xw2
            have hz12 := size_of_ext x12
            have hzO := (O4.toExt hy).1
            refine bodyPost_ret (v := .agg #[.int .i64 n, .slice A8 sr.length c8]) (by simp [results, Try.results65, go_sem, *]) rfl ⟨_, _, F8, rfl, (by refine x'z ?_; repeat (with_reducible (first | exact x'a _ _ | exact x'b _ | exact x'c (by assumption) | refine x'd ?_ (by assumption) | refine x'e ?_ _ | refine x'f ?_ _ | refine x'g ?_ | refine x'h ?_ ?_ _ | refine x'i ?_ _ | refine x'j ?_ | refine x'k ?_ _ | refine x'l ?_ _ _ | refine x'm ?_ | assumption | (refine x'n ?_; omega) | omega))), ?_, hN8, fun b hb => ?_⟩
            · rw [HZ.out]
              refine sRel_mk (OD.chg (E := sII) (G := [bO, w.heap.size + 1 + 1]) ⟨_, rfl, hS8⟩ (by repeat (with_reducible (first | exact Chg.refl _ _ | refine Chg.trans0 ?_ (by assumption) | refine Chg.extS ?_ _ | refine Chg.alloc ?_ _ | refine Chg.drew ?_ | refine Chg.setCell ?_ (.inl (by simp)) _))) ?_)
              intro b hb h
              have := hF8 b hb
              simp at h
              omega
            · have := hF8 b hb
              omega
    · have hne : (r.1 != (a.2.length : Int)) = true := by simpa using hr
      have HZ := Lib.hid (HZ2.out r HO.out hr)
      clear hr
      go_wp2_with fail
      refine bodyPost_ret (v := .agg #[.int .i64 n, .slice none 0 0]) (by simp [results, Try.results65, go_sem, *]) rfl ⟨_, _, [], rfl, (by refine x'z ?_; repeat (with_reducible (first | exact x'a _ _ | exact x'b _ | exact x'c (by assumption) | refine x'd ?_ (by assumption) | refine x'e ?_ _ | refine x'f ?_ _ | refine x'g ?_ | refine x'h ?_ ?_ _ | refine x'i ?_ _ | refine x'j ?_ | refine x'k ?_ _ | refine x'l ?_ _ _ | refine x'm ?_ | assumption | (refine x'n ?_; omega) | omega))), ?_, by simp, by simp⟩
      rw [HZ.out]
      exact sRel_mk (F := []) ⟨_, rfl, SV.nil⟩
theorem AtomBindings_x {A B : Option Addr} {c e : Nat} {d : Dbd} {s : ByteArray} {xs : List Int} {w : World} (hd : WDb d) (h1 : RV 3 vTb w A d) (hx : xs.length ≤ 1000000000) (h2 : RI w B xs) :
    Calls Try.prog 65 #[.agg #[.slice A d.length c], .agg #[.string s, .slice B xs.length e]] w (RelRes (atomBd d (s, xs)) w) := AtomBindings_any (a := (s, xs)) hd h1 hx h2
end Go.Proofs.Ytfigcfajkilhiaa

/- All bindings of a query: the reference's way. -/
namespace Go.Proofs.Ytfigcfajkilhiaa
open Go.RowKit

theorem allB_row {d : Dbd} {q : Qd} (h : QOk d q) {z : List Int} (hz : z ∈ allB d q) : (z.length : Int) = q.1 ∧ rowV z = true := by
  obtain ⟨g, rfl, hg⟩ := (allB_g h).1 hz
  have := h.n1
  refine ⟨by simp [idV]; omega, rowV_iff.2 fun x hx => ?_⟩
  obtain ⟨v, hv, rfl⟩ := List.mem_map.1 hx
  rw [mem_idV] at hv
  obtain ⟨a, ha, hva⟩ := h.cov v hv.1 hv.2
  have hr := (rowsB_iff.1 (atFit_some (h.fit a ha)).2.1.rel).2.2.2.1 _ (hg a ha)
  exact rowV_iff.1 hr.2 _ (List.mem_map.2 ⟨v, hva, rfl⟩)
theorem allB_rowsB {d : Dbd} {q : Qd} (h : QOk d q) : rowsB q.1 (allB d q) = decide ((allB d q).length ≤ 4000) := by
  rw [Bool.eq_iff_iff, rowsB_iff, decide_eq_true_eq]
  have h1 := h.n1
  have h5 := h.n5
  exact ⟨fun k => k.2.2.1, fun k => ⟨by omega, by omega, k, fun r hr => allB_row h hr, asc_sortR _⟩⟩
theorem bind_impl {d : Dbd} {q : Qd} (h : iqfB d q = true) : bindR d q = if rowsB q.1 (allB d q) = true then some (q.1, allB d q) else none := by
  unfold bindR
  rw [allB_rowsB (qok h)]
  simp [h]
theorem bind_spec {d : Dbd} {q : Qd} (h : iqfB d q = true) : newR q.1 (walkL d q.2.1 (List.replicate q.1.toNat (-1))) = bindR d q := by
  have hk := qok h
  have hr : rowsIn q.1 (walkL d q.2.1 (List.replicate q.1.toNat (-1))) = true := rowsIn_iff.2 fun r hr => allB_row hk (mem_sortR.2 hr)
  rw [newR_eq hr, bind_impl h]
  rfl
theorem bind_no {d : Dbd} {q : Qd} (h : iqfB d q = false) : bindR d q = none := by
  unfold bindR
  rw [h]
  simp
theorem bind_ar {d : Dbd} {q : Qd} {r : Rd} (h : bindR d q = some r) : r.1 = q.1 := by
  unfold bindR at h
  split at h
  · injection h with h; rw [← h]
  · cases h
theorem bind_ok {d : Dbd} {q : Qd} {r : Rd} (h : bindR d q = some r) : r.2.length ≤ 4000 ∧ ∀ x ∈ r.2, x.length ≤ 5 := by
  unfold bindR at h
  split at h
  · rename_i hc
    injection h with h
    subst h
    refine ⟨hc.2, fun x hx => ?_⟩
    have := (allB_row (qok hc.1) hx).1
    have := (qok hc.1).n5
    omega
  · cases h
/-- a query's answer -/
def evalR (d : Dbd) (q : Qd) : Option Rd := match bindR d q with | some r => projR r q.2.2 | none => none
theorem evalR_no {d : Dbd} {q : Qd} (h : bindR d q = none) : evalR d q = none := by unfold evalR; rw [h]
theorem evalR_some {d : Dbd} {q : Qd} {r : Rd} (h : bindR d q = some r) : evalR d q = projR r q.2.2 := by unfold evalR; rw [h]
/-- rows, owned and seen -/
def RowsP (l : List (List Int)) (w : World) (e : Ending) (w' : World) : Prop := ∃ A c F, e = .returned (.slice A l.length c) ∧ (∃ y, w' = ext w y) ∧ SV 48 1 sRow w' (.slice A l.length c) l F ∧ F.Nodup ∧ (∀ b ∈ F, w.heap.size ≤ b) ∧ l.length ≤ c ∧ RII w' A l
/-- what is known where a relation was made into a fresh box: the rows are owned -/
def CutV (o : Option Rd) (W : World) (va vb : Value) (wx : World) : Prop := ∃ b A c F, va = .pointer (some ⟨b, 0, none⟩) ∧ vb = .bool o.isSome ∧ BoxAt wx b #[.int .i64 (o.getD (0, [])).1, .slice A (o.getD (0, [])).2.length c] ∧ sII wx [.slice A (o.getD (0, [])).2.length c] (o.getD (0, [])).2 F ∧ F.Nodup ∧ (∀ x ∈ F, W.heap.size ≤ x) ∧ W.heap.size ≤ b ∧ ∃ y, wx = ext W y
theorem l8Walk_0 {A B C R : Option Addr} {c e g nr cr : Nat} {d : Dbd} {q : Qd} {row : List Int} {W0 w : World} (hd : WDb d) (h1 : RV 3 vTb W0 A d) (h2 : vQ W0 [.int .i64 q.1, .slice B q.2.1.length e, .slice C q.2.2.length g] q) (hq : QOk d q) (hnr : (nr : Int) = q.1) (hw : ∃ y, w = ext W0 y) (hr : row.length = nr) (hR : RI w R row) :
    Calls Try.prog 103 #[.agg #[.slice A d.length c], .agg #[.int .i64 q.1, .slice B q.2.1.length e, .slice C q.2.2.length g], .int .i64 0, .slice R nr cr] w (RowsP (walkL d q.2.1 row) w) := by
  have h := l8Walk_any (c := c) hd h1 h2 hq hnr q.2.1.length 0 R cr row w (by omega) hw hr hR
  rw [show (((0 : Nat) : Int)) = 0 from rfl] at h
  refine h.mono ?_
  rintro e w' ⟨A', c', F, rfl, hx, hS, hN, hF⟩
  rw [List.drop_zero] at hS ⊢
  obtain ⟨A2, c2, e2, hc, _, rv⟩ := hS.view (V := vSl 1 vI) (sSl_v sI_v)
  injection e2 with e2 _ e3
  subst e2 e3
  exact ⟨A', c', F, rfl, hx, hS, hN, hF, hc, rv⟩
set_option maxRecDepth 100000 in
set_option maxHeartbeats 16000000 in
theorem specAllBindings_any {A B C : Option Addr} {c e g : Nat} {d : Dbd} {q : Qd} {w : World} (hd : WDb d) (h1 : RV 3 vTb w A d) (hb : BQ q) (h2 : vQ w [.int .i64 q.1, .slice B q.2.1.length e, .slice C q.2.2.length g] q) :
    Calls Try.prog 31 #[.agg #[.slice A d.length c], .agg #[.int .i64 q.1, .slice B q.2.1.length e, .slice C q.2.2.length g]] w (RelRes ((bindR d q).getD (0, [])) w) := by
  have HD := Lib.hid hd
  have HB := Lib.hid hb
  have HV := Lib.hid h2
  obtain ⟨t1, ht1⟩ : ∃ t, iqfB d q = t := ⟨_, rfl⟩
  have HT1 := Lib.hid ht1
  have HQ := Lib.hid (fun (h : t1 = true) => qok (show iqfB d q = true by rw [ht1, h]))
  clear hd hb h2 ht1
  go_enter Try.func31, Try.ntmps31
  go_upto_region 1 with fail
  refine wp_name ?_
  intro W hW
  have xW : ∃ y, W = ext w y := by rw [hW.out]; exact (by refine x'z ?_; repeat (with_reducible (first | exact x'a _ _ | exact x'b _ | exact x'c (by assumption) | refine x'd ?_ (by assumption) | refine x'e ?_ _ | refine x'f ?_ _ | refine x'g ?_ | refine x'h ?_ ?_ _ | refine x'i ?_ _ | refine x'j ?_ | refine x'k ?_ _ | refine x'l ?_ _ _ | refine x'm ?_ | assumption | (refine x'n ?_; omega) | omega)))
  have PW : BoxAt W w.heap.size #[.slice A d.length c] := by rw [hW.out]; exact (by repeat (with_reducible (first | assumption | exact BoxAt.new _ _ _ | apply BoxAt.set10 | apply BoxAt.set2 | refine BoxAt.set2' ?_ (by omega) | apply BoxAt.setP0 | apply BoxAt.setP1 | refine BoxAt.setO ?_ (by omega) | refine BoxAt.alloc ?_ _ | refine BoxAt.drew ?_ | refine BoxAt.toExt ?_ (by assumption))))
  have QW : BoxAt W (w.heap.size + 1) #[.int .i64 q.1, .slice B q.2.1.length e, .slice C q.2.2.length g] := by
    rw [hW.out]
    refine ⟨?_, fun j => ?_, fun j => ?_⟩ <;> go_simp
  have RW : BoxAt W (w.heap.size + 1 + 1) #[.int .i64 0, .slice none 0 0] := by rw [hW.out]; refine ⟨?_, fun j => ?_, fun j => ?_⟩ <;> go_simp
  obtain ⟨lp, p0, fp⟩ := bx1 PW
  obtain ⟨lq, q0, q1, q2, fq⟩ := box3 QW
  clear hW
  cases t1 with
  | false =>
    have HZ := Lib.hid (show (bindR d q).getD (0, []) = (0, []) by rw [bind_no HT1.out]; rfl)
    go_wp2_with (go_at_call 75; refine (specIsQueryFor_any HD.out (h1.toExt xW) HB.out (VD.toExt HV.out xW)).mono ?_; rintro e w1 ⟨rfl, hx1⟩; rw [HT1.out]; obtain ⟨lr1, r10, r11, fr1⟩ := bx2 (RW.toExt hx1))
    refine bodyPost_ret (v := .agg #[.int .i64 0, .slice none 0 0]) (by simp [results, Try.results31, go_sem, *]) rfl ⟨_, _, [], rfl, (by refine x'z ?_; repeat (with_reducible (first | exact x'a _ _ | exact x'b _ | exact x'c (by assumption) | refine x'd ?_ (by assumption) | refine x'e ?_ _ | refine x'f ?_ _ | refine x'g ?_ | refine x'h ?_ ?_ _ | refine x'i ?_ _ | refine x'j ?_ | refine x'k ?_ _ | refine x'l ?_ _ _ | refine x'm ?_ | assumption | (refine x'n ?_; omega) | omega))), ?_, by simp, by simp⟩
    rw [HZ.out]
    exact sRel_mk (F := []) ⟨_, rfl, SV.nil⟩
  | true =>
    have hqk := HQ.out rfl
    have hn1 := hqk.n1
    have hn5 := hqk.n5
    obtain ⟨nr, hnr⟩ := Int.eq_ofNat_of_zero_le (show 0 ≤ q.1 by omega)
    have HNR := Lib.hid hnr.symm
    have HQK := Lib.hid hqk
    have hbl := fun r h => bind_ok (d := d) (q := q) (r := r) h
    have HNW := Lib.hid (bind_spec HT1.out)
    have HWL := Lib.hid (walkL_len (d := d) (ats := q.2.1) (row := List.replicate q.1.toNat (-1)) (fun a ha => ((atFit_some (hqk.fit a ha)).2.1).cnt))
    have HWE := Lib.hid (fun z (hz : z ∈ walkL d q.2.1 (List.replicate q.1.toNat (-1))) => walkL_el hz)
    have hat := hqk.at4
    have hpow : 16 ^ q.2.1.length ≤ 65536 := Nat.le_trans (Nat.pow_le_pow_right (by omega) hat) (by decide)
    have hnt : q.1.toNat = nr := by omega
    rw [hnt] at HNW HWL HWE
    obtain ⟨L, hL⟩ : ∃ L, walkL d q.2.1 (List.replicate nr (-1)) = L := ⟨_, rfl⟩
    rw [hL] at HNW HWL HWE
    have HLL := Lib.hid hL
    have hLl : L.length ≤ 1000000000 := by have := HWL.out; omega
    have HLE := Lib.hid (fun z (hz : z ∈ L) => show z.length ≤ 1000000000 by have := HWE.out z hz; rw [List.length_replicate] at this; omega)
    obtain ⟨o, ho⟩ : ∃ o, bindR d q = o := ⟨_, rfl⟩
    rw [ho] at HNW
    have HO := Lib.hid ho
    have hI64 : I64 q.1 := ⟨by omega, by omega⟩
    have hnr5 : nr ≤ 5 := by omega
    clear hqk hnr hbl hL ho hpow hnt
    go_wp2_with (go_at_call 75; refine (specIsQueryFor_any HD.out (h1.toExt xW) HB.out (VD.toExt HV.out xW)).mono ?_; rintro e w1 ⟨rfl, hx1⟩; rw [HT1.out])
    have P1 := PW.toExt hx1
    have Q1 := QW.toExt hx1
    have R1 := RW.toExt hx1
    have xw1 := trans_ext xW hx1
    have hE := SV.empty (α := Int) (te := 3) (size := 1) (E := sI) w1
    have hz1 := size_of_ext xw1
    have hR1 := R1.1
    clear lp p0 fp lq q0 q1 q2 fq PW QW RW
    go_loopw [5] (fun v wr => ∃ (k : Nat) (F : List Nat), k ≤ nr ∧ SV 3 1 sI wr v (List.replicate k (-1)) F ∧ Hid (∀ b ∈ F, w1.heap.size ≤ b) ∧ ∃ y, wr = ext w1 y) (fun v _ => nr - slLen v)
    case atStart => exact ⟨0, _, by omega, by simpa using hE, Lib.hid (by simp), alloc_ext _ _⟩
    case round =>
      obtain ⟨k, F, hk, hS, HF, hy⟩ := hrel
      obtain ⟨A5, c5, rfl, _, _⟩ := hS.form
      obtain ⟨lq1, q10, q11, q12, fq1⟩ := box3 (Q1.toExt hy)
      rw [List.length_replicate] at hS ⊢
      by_cases hlt : k < nr
      · have hlk : (List.replicate k (-1 : Int)).length + 1 ≤ 2000000000 := by simp; omega
        have HLR := Lib.hid (show List.replicate (k + 1) (-1 : Int) = List.replicate k (-1) ++ [-1] from List.replicate_succ')
        have hnq : (k : Int) < q.1 := by have := HNR.out; omega
        go_wp2_with (at_builtin; refine wpList_app1 (E := sI) (d := (-1 : Int)) rfl _ _ _ rfl tI rfl rfl rfl (by simp) (fun _ => ⟨rfl, rfl⟩) rfl (by simp [Value.oneCell']) hS hlk (by omega) ?_; intro v' w' F' hS' hC' hF'; obtain ⟨A6, c6, rfl, _, _⟩ := hS'.form)
        have hS9 : SV 3 1 sI w' (.slice A6 (k + 1) c6) (List.replicate (k + 1) (-1)) F' := by
          rw [HLR.out]
          have e9 : (List.replicate k (-1 : Int) ++ [-1]).length = k + 1 := by simp
          rw [e9] at hS'
          exact hS'
        refine ⟨⟨k + 1, F', by omega, hS9, Lib.hid (newer HF.out (size_of_ext hy) hF'), hC'.isExt hy HF.out⟩, ?_⟩
        simp [slLen]
        omega
      · obtain rfl : k = nr := by omega
        have hnq : ¬ ((k : Int) < q.1) := by have := HNR.out; omega
        have hRv := hS.toView sI_v
        have xw2 := trans_ext xw1 hy
        have P2 := P1.toExt hy
        have Q2 := Q1.toExt hy
        have R2 := R1.toExt hy
        obtain ⟨lp2, p20, fp2⟩ := bx1 P2
        go_upto_region 6 with fail
        obtain ⟨WC, rfl⟩ : ∃ W, W = wr := ⟨_, rfl⟩
        go_cut [6, 7] (CutV o WC)
        case first =>
          go_region_held3 (fun w' => (∀ a : Addr, a.block < WC.heap.size → w'.cell? a = WC.cell? a) ∧ ∃ y, w' = ext WC y) (first | exact heldE (by refine x'z ?_; repeat (with_reducible (first | exact x'a _ _ | exact x'b _ | exact x'c (by assumption) | refine x'd ?_ (by assumption) | refine x'e ?_ _ | refine x'f ?_ _ | refine x'g ?_ | refine x'h ?_ ?_ _ | refine x'i ?_ _ | refine x'j ?_ | refine x'k ?_ _ | refine x'l ?_ _ _ | refine x'm ?_ | assumption | (refine x'n ?_; omega) | omega)))) (first
            | (go_at_call 103; refine (l8Walk_0 HD.out h1 HV.out HQK.out HNR.out (trans_ext xw2 (by refine x'z ?_; repeat (with_reducible (first | exact x'a _ _ | exact x'b _ | exact x'c (by assumption) | refine x'd ?_ (by assumption) | refine x'e ?_ _ | refine x'f ?_ _ | refine x'g ?_ | refine x'h ?_ ?_ _ | refine x'i ?_ _ | refine x'j ?_ | refine x'k ?_ _ | refine x'l ?_ _ _ | refine x'm ?_ | assumption | (refine x'n ?_; omega) | omega)))) (by simp) (hRv.toExt (by refine x'z ?_; repeat (with_reducible (first | exact x'a _ _ | exact x'b _ | exact x'c (by assumption) | refine x'd ?_ (by assumption) | refine x'e ?_ _ | refine x'f ?_ _ | refine x'g ?_ | refine x'h ?_ ?_ _ | refine x'i ?_ _ | refine x'j ?_ | refine x'k ?_ _ | refine x'l ?_ _ _ | refine x'm ?_ | assumption | (refine x'n ?_; omega) | omega))))).mono ?_; rw [HLL.out]; rintro e w5 ⟨A7, c7, F5, rfl, hx5, hS5, hN5, hF5, hc5, rv5⟩; have hz5 : WC.heap.size ≤ w5.heap.size := size_of_ext (by refine x'z ?_; repeat (with_reducible (first | exact x'a _ _ | exact x'b _ | exact x'c (by assumption) | refine x'd ?_ (by assumption) | refine x'e ?_ _ | refine x'f ?_ _ | refine x'g ?_ | refine x'h ?_ ?_ _ | refine x'i ?_ _ | refine x'j ?_ | refine x'k ?_ _ | refine x'l ?_ _ _ | refine x'm ?_ | assumption | (refine x'n ?_; omega) | omega))); (first | (have L5 : BoxAt w5 WC.heap.size #[.int .i64 0, .slice none 0 0] := BoxAt.toExt (BoxAt.new WC _ _) hx5; obtain ⟨z1, z2, z3, z4⟩ := bx2 L5) | (have L5 : BoxAt w5 WC.heap.size #[.int .i64 0, .slice none 0 0] := BoxAt.toExt (BoxAt.new WC.drew _ _) hx5; obtain ⟨z1, z2, z3, z4⟩ := bx2 L5) | (have L5 : BoxAt w5 WC.heap.size #[.int .i64 0, .slice none 0 0] := BoxAt.toExt (BoxAt.new WC _ _).drew hx5; obtain ⟨z1, z2, z3, z4⟩ := bx2 L5) | skip))
            | (go_at_call 102; refine (specNewRelation_any hI64 hLl hc5 HLE.out (rv5.toExt (by refine x'z ?_; repeat (with_reducible (first | exact x'a _ _ | exact x'b _ | exact x'c (by assumption) | refine x'd ?_ (by assumption) | refine x'e ?_ _ | refine x'f ?_ _ | refine x'g ?_ | refine x'h ?_ ?_ _ | refine x'i ?_ _ | refine x'j ?_ | refine x'k ?_ _ | refine x'l ?_ _ _ | refine x'm ?_ | assumption | (refine x'n ?_; omega) | omega))))).mono ?_; rw [HNW.out]; rintro e w3 ⟨u0, u1, F3, rfl, hx3, hS3, hN3, hF3⟩; have hG3 : ∀ x ∈ F3, w5.heap.size ≤ x := (fun x hx => Nat.le_trans (size_of_ext (by refine x'z ?_; repeat (with_reducible (first | exact x'a _ _ | exact x'b _ | exact x'c (by assumption) | refine x'd ?_ (by assumption) | refine x'e ?_ _ | refine x'f ?_ _ | refine x'g ?_ | refine x'h ?_ ?_ _ | refine x'i ?_ _ | refine x'j ?_ | refine x'k ?_ _ | refine x'l ?_ _ _ | refine x'm ?_ | assumption | (refine x'n ?_; omega) | omega)))) (hF3 x hx)); obtain ⟨A3, c3, rfl, rfl, hI3⟩ := sRel_form hS3; have hz3 : w5.heap.size ≤ w3.heap.size := size_of_ext (by refine x'z ?_; repeat (with_reducible (first | exact x'a _ _ | exact x'b _ | exact x'c (by assumption) | refine x'd ?_ (by assumption) | refine x'e ?_ _ | refine x'f ?_ _ | refine x'g ?_ | refine x'h ?_ ?_ _ | refine x'i ?_ _ | refine x'j ?_ | refine x'k ?_ _ | refine x'l ?_ _ _ | refine x'm ?_ | assumption | (refine x'n ?_; omega) | omega))); (first | (have L3 : BoxAt w3 WC.heap.size #[.int .i64 0, .slice none 0 0] := BoxAt.toExt L5 hx3; obtain ⟨z1, z2, z3, z4⟩ := bx2 L3) | skip); (first | (have M3 : BoxAt w3 w5.heap.size #[.int .i64 0, .slice none 0 0] := BoxAt.toExt (BoxAt.new w5 _ _) hx3; obtain ⟨y1, y2, y3, y4⟩ := bx2 M3) | (have M3 : BoxAt w3 w5.heap.size #[.int .i64 0, .slice none 0 0] := BoxAt.toExt (BoxAt.new w5.drew _ _) hx3; obtain ⟨y1, y2, y3, y4⟩ := bx2 M3) | (have M3 : BoxAt w3 w5.heap.size #[.int .i64 0, .slice none 0 0] := BoxAt.toExt (BoxAt.new w5 _ _).drew hx3; obtain ⟨y1, y2, y3, y4⟩ := bx2 M3) | skip)))
          all_goals
            go_wp2_with fail
            go_meet
            have hl3 := SMono.lt hI3
            have hdr : WC.drew.heap.size = WC.heap.size := rfl
            first
              | exact ⟨w3.heap.size, A3, c3, F3, rfl, rfl, BoxAt.new _ _ _, OD.toExt hI3 (alloc_ext _ _), hN3, fun x hx => by have := hG3 x hx; omega, by omega, (by refine x'z ?_; repeat (with_reducible (first | exact x'a _ _ | exact x'b _ | exact x'c (by assumption) | refine x'd ?_ (by assumption) | refine x'e ?_ _ | refine x'f ?_ _ | refine x'g ?_ | refine x'h ?_ ?_ _ | refine x'i ?_ _ | refine x'j ?_ | refine x'k ?_ _ | refine x'l ?_ _ _ | refine x'm ?_ | assumption | (refine x'n ?_; omega) | omega)))⟩
              | exact ⟨WC.heap.size, A3, c3, F3, rfl, rfl, (by repeat (with_reducible (first | assumption | exact BoxAt.new _ _ _ | apply BoxAt.set2 | refine BoxAt.set2' ?_ (by omega) | apply BoxAt.setP0 | apply BoxAt.setP1 | refine BoxAt.setO ?_ (by omega) | refine BoxAt.alloc ?_ _ | refine BoxAt.drew ?_ | refine BoxAt.toExt ?_ (by assumption)))), OD.chg (G := [WC.heap.size]) hI3 (by repeat (with_reducible (first | exact Chg.refl _ _ | refine Chg.trans0 ?_ (by assumption) | refine Chg.extS ?_ _ | refine Chg.alloc ?_ _ | refine Chg.drew ?_ | refine Chg.setCell ?_ (.inl (by simp)) _))) (fun x hx hm => by have := hG3 x hx; have h9 := L5.1; rw [List.mem_singleton.1 hm] at this; omega), hN3, fun x hx => by have := hG3 x hx; omega, by omega, (by refine x'z ?_; repeat (with_reducible (first | exact x'a _ _ | exact x'b _ | exact x'c (by assumption) | refine x'd ?_ (by assumption) | refine x'e ?_ _ | refine x'f ?_ _ | refine x'g ?_ | refine x'h ?_ ?_ _ | refine x'i ?_ _ | refine x'j ?_ | refine x'k ?_ _ | refine x'l ?_ _ _ | refine x'm ?_ | assumption | (refine x'n ?_; omega) | omega)))⟩
              | exact ⟨w5.heap.size, A3, c3, F3, rfl, rfl, (by repeat (with_reducible (first | assumption | exact BoxAt.new _ _ _ | apply BoxAt.set2 | refine BoxAt.set2' ?_ (by omega) | apply BoxAt.setP0 | apply BoxAt.setP1 | refine BoxAt.setO ?_ (by omega) | refine BoxAt.alloc ?_ _ | refine BoxAt.drew ?_ | refine BoxAt.toExt ?_ (by assumption)))), OD.chg (G := [w5.heap.size]) hI3 (by repeat (with_reducible (first | exact Chg.refl _ _ | refine Chg.trans0 ?_ (by assumption) | refine Chg.extS ?_ _ | refine Chg.alloc ?_ _ | refine Chg.drew ?_ | refine Chg.setCell ?_ (.inl (by simp)) _))) (fun x hx hm => by have := hF3 x hx; rw [World.size_alloc] at this; rw [List.mem_singleton.1 hm] at this; omega), hN3, fun x hx => by have := hG3 x hx; omega, by omega, (by refine x'z ?_; repeat (with_reducible (first | exact x'a _ _ | exact x'b _ | exact x'c (by assumption) | refine x'd ?_ (by assumption) | refine x'e ?_ _ | refine x'f ?_ _ | refine x'g ?_ | refine x'h ?_ ?_ _ | refine x'i ?_ _ | refine x'j ?_ | refine x'k ?_ _ | refine x'l ?_ _ _ | refine x'm ?_ | assumption | (refine x'n ?_; omega) | omega)))⟩
        obtain ⟨bX, A3, c3, F3, rfl, rfl, BX, hI3, hN3, hF3, hbX, hxX⟩ := hcut
        obtain ⟨w4, rfl⟩ : ∃ W, W = wc := ⟨_, rfl⟩
        have R4 := R2.toExt hxX
        obtain ⟨lr4, r40, r41, fr4⟩ := bx2 R4
        obtain ⟨lx4, x40, x41, fx4⟩ := bx2 BX
        have xw4 := trans_ext xw2 hxX
        have hzy := size_of_ext hy
        clear lp2 p20 fp2 lq1 q10 q11 q12 fq1
        cases o with
        | none =>
          simp only [Option.getD_none, Option.isSome_none] at x40 x41 ⊢
          go_wp2_with fail
          refine bodyPost_ret (v := .agg #[.int .i64 0, .slice none 0 0]) (by simp [results, Try.results31, go_sem, *]) rfl ⟨_, _, [], rfl, (by refine x'z ?_; repeat (with_reducible (first | exact x'a _ _ | exact x'b _ | exact x'c (by assumption) | refine x'd ?_ (by assumption) | refine x'e ?_ _ | refine x'f ?_ _ | refine x'g ?_ | refine x'h ?_ ?_ _ | refine x'i ?_ _ | refine x'j ?_ | refine x'k ?_ _ | refine x'l ?_ _ _ | refine x'm ?_ | assumption | (refine x'n ?_; omega) | omega))), ?_, by simp, by simp⟩
          rw [HO.out]
          exact sRel_mk (F := []) ⟨_, rfl, SV.nil⟩
        | some r =>
          simp only [Option.getD_some, Option.isSome_some] at x40 x41 hI3 ⊢
          have HI3 := Lib.hid hI3
          clear hI3
          go_wp2_with fail
          refine bodyPost_ret (v := .agg #[.int .i64 r.1, .slice A3 r.2.length c3]) (by simp [results, Try.results31, go_sem, *]) rfl ⟨_, _, F3, rfl, (by refine x'z ?_; repeat (with_reducible (first | exact x'a _ _ | exact x'b _ | exact x'c (by assumption) | refine x'd ?_ (by assumption) | refine x'e ?_ _ | refine x'f ?_ _ | refine x'g ?_ | refine x'h ?_ ?_ _ | refine x'i ?_ _ | refine x'j ?_ | refine x'k ?_ _ | refine x'l ?_ _ _ | refine x'm ?_ | assumption | (refine x'n ?_; omega) | omega))), ?_, hN3, fun b hb => ?_⟩
          · rw [HO.out]
            refine sRel_mk (z := r.1) (rows := r.2) ?_
            refine OD.chg (E := sII) (G := [w.heap.size + 1 + 1]) HI3.out (by repeat (with_reducible (first | exact Chg.refl _ _ | refine Chg.trans0 ?_ (by assumption) | refine Chg.extS ?_ _ | refine Chg.alloc ?_ _ | refine Chg.drew ?_ | refine Chg.setCell ?_ (.inl (by simp)) _))) ?_
            intro b hb h
            have := hF3 b hb
            rw [List.mem_singleton.1 h] at this
            omega
          · have := hF3 b hb
            omega
end Go.Proofs.Ytfigcfajkilhiaa

/- The bindings of an atom: the reference's way. -/
namespace Go.Proofs.Ytfigcfajkilhiaa
open Go.RowKit

theorem mapt_step {vars xs row : List Int} {k : Nat} (h : k < vars.length) : (vars.take (k + 1)).map (valAt xs row) = (vars.take k).map (valAt xs row) ++ [valAt xs row vars[k]] := by
  rw [List.take_succ_eq_append_getElem h, List.map_append]
  rfl
set_option maxRecDepth 100000 in
set_option maxHeartbeats 16000000 in
theorem specAtomBindings_any {A B : Option Addr} {c e : Nat} {d : Dbd} {a : At} {w : World} (hd : WDb d) (h1 : RV 3 vTb w A d) (hx : a.2.length ≤ 1000000000) (h2 : RI w B a.2) :
    Calls Try.prog 70 #[.agg #[.slice A d.length c], .agg #[.string a.1, .slice B a.2.length e]] w (RelRes (atomBd d a) w) := by
  have HD := Lib.hid hd
  have hav5 := avars_length 5 0 a.2
  have HZ1 := Lib.hid (fun h => atomBd_non (d := d) (a := a) h)
  have HZ2 := Lib.hid (fun r h hr => atomBd_ar (d := d) (a := a) (r := r) h hr)
  have HAV := Lib.hid (fun v (hv : v ∈ avars 5 0 a.2) => (mem_avars 5 0 _ v).1 hv)
  have HFS := Lib.hid (fun rows k (hk : k < rows.length) => fitRS_step (xs := a.2) (rows := rows) (k := k) hk)
  have HFE := Lib.hid (fun rows => fitRS_el (xs := a.2) (rows := rows))
  have HNW := Lib.hid (fun h => fitRS_eq (d := d) (a := a) h)
  obtain ⟨o, ho⟩ : ∃ o, lookD d a.1 = o := ⟨_, rfl⟩
  have HO := Lib.hid ho
  clear hd ho
  go_enter Try.func70, Try.ntmps70
  go_upto_region 1 with fail
  refine wp_name ?_
  intro W hW
  have xW : ∃ y, W = ext w y := by rw [hW.out]; exact (by refine x'z ?_; repeat (with_reducible (first | exact x'a _ _ | exact x'b _ | exact x'c (by assumption) | refine x'd ?_ (by assumption) | refine x'e ?_ _ | refine x'f ?_ _ | refine x'g ?_ | refine x'h ?_ ?_ _ | refine x'i ?_ _ | refine x'j ?_ | refine x'k ?_ _ | refine x'l ?_ _ _ | refine x'm ?_ | assumption | (refine x'n ?_; omega) | omega)))
  have PW : BoxAt W w.heap.size #[.slice A d.length c] := by rw [hW.out]; exact (by repeat (with_reducible (first | assumption | exact BoxAt.new _ _ _ | apply BoxAt.set10 | apply BoxAt.set2 | refine BoxAt.set2' ?_ (by omega) | apply BoxAt.setP0 | apply BoxAt.setP1 | refine BoxAt.setO ?_ (by omega) | refine BoxAt.alloc ?_ _ | refine BoxAt.drew ?_ | refine BoxAt.toExt ?_ (by assumption))))
  have QW : BoxAt W (w.heap.size + 1) #[.string a.1, .slice B a.2.length e] := by rw [hW.out]; refine ⟨?_, fun j => ?_, fun j => ?_⟩ <;> go_simp
  have RW : BoxAt W (w.heap.size + 1 + 1) #[.int .i64 0, .slice none 0 0] := by rw [hW.out]; refine ⟨?_, fun j => ?_, fun j => ?_⟩ <;> go_simp
  obtain ⟨lq, q0, q1, fq⟩ := bx2 QW
  clear hW
  go_wp2_with fail
  refine (specAtomVariables_any (by omega) (h2.toExt xW)).mono ?_
  rintro e w1 ⟨v1, F1, rfl, hx1, hSv, hFv⟩
  obtain ⟨Av, cv, rfl, _, _, rv⟩ := hSv.view sI_v
  obtain ⟨vars, hvars⟩ : ∃ v, avars 5 0 a.2 = v := ⟨_, rfl⟩
  have HVR := Lib.hid hvars
  rw [hvars] at rv hav5 HZ1 HZ2 HAV HFS HFE HNW ⊢
  obtain ⟨n, hn⟩ : ∃ n : Int, (vars.length : Int) = n := ⟨_, rfl⟩
  have HNN := Lib.hid hn
  rw [hn] at HZ1 HZ2 HNW
  have hI64 : I64 n := ⟨by omega, by omega⟩
  have P1 := PW.toExt hx1
  have Q1 := QW.toExt hx1
  have R1 := RW.toExt hx1
  have xw1 := trans_ext xW hx1
  obtain ⟨lp1, p10, fp1⟩ := bx1 P1
  obtain ⟨lq1, q10, q11, fq1⟩ := bx2 Q1
  clear lq q0 q1 fq PW QW RW hSv hFv hvars hn
  go_upto_region 3 with (go_at_call 71; refine (specLookupRelation_any HD.out (h1.toExt xw1)).mono ?_; rw [HO.out]; rintro e w3 ⟨u0, u1, F3, rfl, hx3, hS3, hN3, hF3⟩; obtain ⟨A3, c3, rfl, rfl, hI3⟩ := sRel_form hS3)
  refine wp_name ?_
  intro w2 hw2
  have x32 : ∃ y, w2 = ext w3 y := by rw [hw2.out]; exact (by refine x'z ?_; repeat (with_reducible (first | exact x'a _ _ | exact x'b _ | exact x'c (by assumption) | refine x'd ?_ (by assumption) | refine x'e ?_ _ | refine x'f ?_ _ | refine x'g ?_ | refine x'h ?_ ?_ _ | refine x'i ?_ _ | refine x'j ?_ | refine x'k ?_ _ | refine x'l ?_ _ _ | refine x'm ?_ | assumption | (refine x'n ?_; omega) | omega)))
  have X2 : BoxAt w2 w3.heap.size #[.int .i64 (o.getD (0, [])).1, .slice A3 (o.getD (0, [])).2.length c3] := by rw [hw2.out]; exact (by repeat (with_reducible (first | assumption | exact BoxAt.new _ _ _ | apply BoxAt.set2 | refine BoxAt.set2' ?_ (by omega) | apply BoxAt.setP0 | apply BoxAt.setP1 | refine BoxAt.setO ?_ (by omega) | refine BoxAt.alloc ?_ _ | refine BoxAt.drew ?_ | refine BoxAt.toExt ?_ (by assumption))))
  obtain ⟨bX, qX⟩ : ∃ b, w3.heap.size = b := ⟨_, rfl⟩
  rw [qX] at X2 ⊢
  have hbX : w.heap.size + 1 + 1 < bX := by have := (R1.toExt hx3).1; omega
  clear hw2 qX
  go_upto_region 4 with fail
  refine wp_name ?_
  intro w4 hw4
  have x24' : ∃ y, w4 = ext w2 y := by rw [hw4.out]; exact (by refine x'z ?_; repeat (with_reducible (first | exact x'a _ _ | exact x'b _ | exact x'c (by assumption) | refine x'd ?_ (by assumption) | refine x'e ?_ _ | refine x'f ?_ _ | refine x'g ?_ | refine x'h ?_ ?_ _ | refine x'i ?_ _ | refine x'j ?_ | refine x'k ?_ _ | refine x'l ?_ _ _ | refine x'm ?_ | assumption | (refine x'n ?_; omega) | omega)))
  have O4 : BoxAt w4 w2.heap.size #[.int .i64 n, .slice none 0 0] := by rw [hw4.out, ← HNN.out]; exact (by repeat (with_reducible (first | assumption | exact BoxAt.new _ _ _ | apply BoxAt.set2 | refine BoxAt.set2' ?_ (by omega) | apply BoxAt.setP0 | apply BoxAt.setP1 | refine BoxAt.setO ?_ (by omega) | refine BoxAt.alloc ?_ _ | refine BoxAt.drew ?_ | refine BoxAt.toExt ?_ (by assumption))))
  have x34 := trans_ext x32 x24'
  have x14 := trans_ext hx3 x34
  have xw4 := trans_ext xw1 x14
  have X4 := X2.toExt x24'
  have Q4 := Q1.toExt x14
  have R4 := R1.toExt x14
  have rv4 := rv.toExt x14
  have rk4 : RII w4 A3 (o.getD (0, [])).2 := ((vII_get (sII_v _ _ _ hI3)).2).toExt x34
  obtain ⟨lo4, o40, o41, fo4⟩ := bx2 O4
  obtain ⟨lx4, x40, x41, fx4⟩ := bx2 X4
  obtain ⟨lq4, q40, q41, fq4⟩ := bx2 Q4
  obtain ⟨lr4, r40, r41, fr4⟩ := bx2 R4
  clear hw4 hS3 hI3 hN3 hF3 lp1 p10 fp1 lq1 q10 q11 fq1 P1 Q1 R1 rv X2
  cases o with
  | none =>
    have HZ := Lib.hid (HZ1.out HO.out)
    go_wp2_with fail
    refine bodyPost_ret (v := .agg #[.int .i64 n, .slice none 0 0]) (by simp [results, Try.results70, go_sem, *]) rfl ⟨_, _, [], rfl, (by refine x'z ?_; repeat (with_reducible (first | exact x'a _ _ | exact x'b _ | exact x'c (by assumption) | refine x'd ?_ (by assumption) | refine x'e ?_ _ | refine x'f ?_ _ | refine x'g ?_ | refine x'h ?_ ?_ _ | refine x'i ?_ _ | refine x'j ?_ | refine x'k ?_ _ | refine x'l ?_ _ _ | refine x'm ?_ | assumption | (refine x'n ?_; omega) | omega))), ?_, by simp, by simp⟩
    rw [HZ.out]
    exact sRel_mk (F := []) ⟨_, rfl, SV.nil⟩
  | some r =>
    simp only [Option.getD_some, Option.isSome_some] at x40 x41 rk4 X4 ⊢
    have h2r := h2.toExt xw4
    by_cases hr : r.1 = (a.2.length : Int)
    · have hne : (r.1 != (a.2.length : Int)) = false := by simpa using hr
      obtain ⟨k1, k2, k3, k4, k5⟩ := look_ok HO.out hr
      have HL5 := Lib.hid k5
      have HNW := Lib.hid (show newR n (fitRS a.2 r.2) = some (atomBd d a) by rw [← k2]; exact HNW.out k1)
      have hx9 : a.2.length ≤ 1000000000 := by omega
      have hvl9 : vars.length ≤ 1000000000 := by omega
      have HVM : Hid (∀ v ∈ vars, v ∈ a.2) := Lib.hid (fun v hv => (HAV.out v hv).2.2)
      have hE0 : SV 48 1 sRow (w4.alloc (.cells #[] 48)) (.slice (some ⟨w4.heap.size, 0, none⟩) 0 0) [] [w4.heap.size] := SV.empty w4
      clear hr k1 k2 k5
      go_wp2_with fail
      clear lo4 o40 o41 fo4 lx4 x40 x41 fx4 lq4 q40 q41 fq4 lr4 r40 r41 fr4 h2r
      go_loopw [9, 10] (fun v i wr => ∃ (k : Nat) (F : List Nat), i = .int .i64 k ∧ k ≤ r.2.length ∧ SV 48 1 sRow wr v (fitRS a.2 (r.2.take k)) F ∧ Hid F.Nodup ∧ Hid (∀ x ∈ F, w4.heap.size ≤ x) ∧ ∃ y, wr = ext w4 y) (fun _ i _ => r.2.length - (intOf i).toNat)
      case atStart => exact ⟨0, _, rfl, by omega, by simpa [fitRS] using hE0, Lib.hid (by simp), Lib.hid (by simp), alloc_ext _ _⟩
      case round =>
        obtain ⟨k, F, rfl, hk, hS, HN, HF, hy⟩ := hrel
        have X5 := X4.toExt hy
        have Q5 := Q4.toExt hy
        obtain ⟨lx5, x50, x51, fx5⟩ := bx2 X5
        by_cases hlt : k < r.2.length
        · obtain ⟨br, orr, A5, c5, rfl, hbr, hcr, hvr⟩ := (rk4.toExt hy).atV hlt
          have lr := HL5.out _ (List.getElem_mem hlt)
          have hst := HFS.out r.2 k hlt
          have hlk := fitRS_len (xs := a.2) (rows := r.2) (k := k)
          obtain ⟨row, hrow⟩ : ∃ x, r.2[k] = x := ⟨_, rfl⟩
          rw [hrow] at hcr hvr lr hst
          obtain ⟨fl, hfl⟩ : ∃ l, fitRS a.2 (r.2.take k) = l := ⟨_, rfl⟩
          rw [hfl] at hst hlk hS
          have HST := Lib.hid hst
          have HS := Lib.hid hS
          have HSlt := Lib.hid hS.lt
          have HLR := Lib.hid lr
          have HCR := Lib.hid hcr
          have HFA := Lib.hid (fitS_all (vars := vars) lr)
          have hE3 := SV.empty (α := Int) (te := 3) (size := 1) (E := sI) wr
          have hw5 := trans_ext xw4 hy
          have h2r := h2.toExt hw5
          have rvr := rv4.toExt hy
          obtain ⟨lq5, q50, q51, fq5⟩ := bx2 Q5
          have hbr0 := hbr
          clear hrow hfl lr hst hS
          obtain ⟨wo, rfl⟩ : ∃ wo : World, wo = wr := ⟨_, rfl⟩
          go_wp2_with fail
          go_loopw [11, 12] (fun v j wq => ∃ (k3 : Nat) (F3 : List Nat), j = .int .i64 k3 ∧ k3 ≤ vars.length ∧ SV 3 1 sI wq v ((vars.take k3).map (valAt a.2 row)) F3 ∧ Hid (∀ x ∈ F3, wo.heap.size ≤ x) ∧ ∃ y, wq = ext wo y) (fun _ j _ => vars.length - (intOf j).toNat)
          case atStart => exact ⟨0, _, rfl, by omega, by simpa using hE3, Lib.hid (by simp), alloc_ext _ _⟩
          case round =>
            obtain ⟨k3, F3, rfl, hk3, hS3, HF3, hy3⟩ := hrel
            by_cases hlt3 : k3 < vars.length
            · obtain ⟨bu, ou, rfl, hbu, hcu⟩ := rvr.atI hlt3
              have hmem := HVM.out _ (List.getElem_mem hlt3)
              have Ht := Lib.hid (mapt_step (xs := a.2) (row := row) hlt3)
              have hlk3 : ((vars.take k3).map (valAt a.2 row)).length + 1 ≤ 2000000000 := by simp; omega
              obtain ⟨v, hv⟩ : ∃ v, vars[k3] = v := ⟨_, rfl⟩
              rw [hv] at hcu hmem Ht
              obtain ⟨p, hp1, hp2, hp3⟩ := iof_at (r := row) hmem
              obtain ⟨bs', os', rfl, hbs', hcs'⟩ := hvr.atI' (n := p) (by rw [HLR.out]; exact hp1)
              have hq4 : (p : Int) < (row.length : Int) := by rw [HLR.out]; omega
              obtain ⟨x, hx8⟩ : ∃ x, row.getD p 0 = x := ⟨_, rfl⟩
              rw [hx8] at hcs' hp3
              rw [hp3] at Ht
              have HI := Lib.hid hp2
              clear hv hmem hp2 hp3 hx8
              go_wp2_with fail
              go_region_held3 (fun w' => (∀ a : Addr, a.block < wo.heap.size → w'.cell? a = wo.cell? a) ∧ ∃ y, w' = ext wo y) (first | exact heldE (hC'.isExt (by refine x'z ?_; repeat (with_reducible (first | exact x'a _ _ | exact x'b _ | exact x'c (by assumption) | refine x'd ?_ (by assumption) | refine x'e ?_ _ | refine x'f ?_ _ | refine x'g ?_ | refine x'h ?_ ?_ _ | refine x'i ?_ _ | refine x'j ?_ | refine x'k ?_ _ | refine x'l ?_ _ _ | refine x'm ?_ | assumption | (refine x'n ?_; omega) | omega))) HF3.out) | exact heldE (by refine x'z ?_; repeat (with_reducible (first | exact x'a _ _ | exact x'b _ | exact x'c (by assumption) | refine x'd ?_ (by assumption) | refine x'e ?_ _ | refine x'f ?_ _ | refine x'g ?_ | refine x'h ?_ ?_ _ | refine x'i ?_ _ | refine x'j ?_ | refine x'k ?_ _ | refine x'l ?_ _ _ | refine x'm ?_ | assumption | (refine x'n ?_; omega) | omega)))) (first
                | (go_at_call 125; refine (l7Find_any hx9 (h2r.toExt (by refine x'z ?_; repeat (with_reducible (first | exact x'a _ _ | exact x'b _ | exact x'c (by assumption) | refine x'd ?_ (by assumption) | refine x'e ?_ _ | refine x'f ?_ _ | refine x'g ?_ | refine x'h ?_ ?_ _ | refine x'i ?_ _ | refine x'j ?_ | refine x'k ?_ _ | refine x'l ?_ _ _ | refine x'm ?_ | assumption | (refine x'n ?_; omega) | omega))))).mono ?_; rintro e w13 ⟨rfl, hx13⟩; rw [HI.out])
                | (refine step_app1 (E := sI) (d := x) (by rfl) _ _ _ (by rfl) tI (by rfl) (by rfl) (by rfl) (by simp) (fun _ => ⟨rfl, rfl⟩) (by rfl) (by simp [Value.oneCell']) (hS3.toExt (by refine x'z ?_; repeat (with_reducible (first | exact x'a _ _ | exact x'b _ | exact x'c (by assumption) | refine x'd ?_ (by assumption) | refine x'e ?_ _ | refine x'f ?_ _ | refine x'g ?_ | refine x'h ?_ ?_ _ | refine x'i ?_ _ | refine x'j ?_ | refine x'k ?_ _ | refine x'l ?_ _ _ | refine x'm ?_ | assumption | (refine x'n ?_; omega) | omega)))) hlk3 (by omega) ?_; intro v' w' F' hS' hC' hF'))
              all_goals
                have hyz13 : ∃ y, w13 = ext wo y := (by refine x'z ?_; repeat (with_reducible (first | exact x'a _ _ | exact x'b _ | exact x'c (by assumption) | refine x'd ?_ (by assumption) | refine x'e ?_ _ | refine x'f ?_ _ | refine x'g ?_ | refine x'h ?_ ?_ _ | refine x'i ?_ _ | refine x'j ?_ | refine x'k ?_ _ | refine x'l ?_ _ _ | refine x'm ?_ | assumption | (refine x'n ?_; omega) | omega)))
                go_wp2
                exact ⟨⟨k3 + 1, F', by go_num, by omega, by rw [Ht.out]; exact hS', Lib.hid (newer HF3.out (size_of_ext hyz13) hF'), hC'.isExt hyz13 HF3.out⟩, by simp [intOf]; omega⟩
            · rw [show vars.take k3 = vars from List.take_of_length_le (by omega)] at hS3
              have HVM2 := Lib.hid (fun v (hv : v ∈ vars) => valAt_map (va := vars) (g := valAt a.2 row) hv)
              have hnl : (vars.map (valAt a.2 row)).length = vars.length := by simp
              obtain ⟨nr, hnr⟩ : ∃ l, vars.map (valAt a.2 row) = l := ⟨_, rfl⟩
              rw [hnr] at hS3 hnl HVM2
              have HNR := Lib.hid hnr
              have HNL := Lib.hid hnl
              obtain ⟨A9, c9, rfl, _, _⟩ := hS3.form
              have hv9 := hS3.toView sI_v
              obtain ⟨w5, rfl⟩ : ∃ w5 : World, w5 = wr := ⟨_, rfl⟩
              have HS3 := Lib.hid hS3
              clear hnr hnl lx5 x50 x51 fx5 lq5 q50 q51 fq5 hS3 hcr hbr
              go_wp2_with fail
              have hyo := hy3
              go_loopw [13, 14] (fun f i wq => ∃ (j : Nat), i = .int .i64 j ∧ j ≤ a.2.length ∧ f = .bool (fitS vars a.2 row j) ∧ ∃ y, wq = ext w5 y) (fun _ i _ => a.2.length - (intOf i).toNat)
              case atStart => exact ⟨0, rfl, by omega, rfl, refl_ext w5⟩
              case round =>
                obtain ⟨j, rfl, hj, rfl, hy5⟩ := hrel
                have hyo5 := trans_ext hyo hy5
                obtain ⟨lq5, q50, q51, fq5⟩ := bx2 (Q5.toExt hyo5)
                by_cases hlt2 : j < a.2.length
                · obtain ⟨bv, ov, rfl, hbv, hcv⟩ := (h2r.toExt hyo5).atI' (n := j) hlt2
                  obtain ⟨br', or', rfl, hbr', hcr'⟩ := (hvr.toExt hyo5).atI' (n := j) (by rw [HLR.out]; exact hlt2)
                  have hfs := fitS_step (vars := vars) (xs := a.2) (row := row) (k := j)
                  have hjl : (j : Int) < (row.length : Int) := by rw [HLR.out]; omega
                  have hrr := rvr.toExt hyo5
                  have hcr5 := cellW hyo5 hbr0 HCR.out
                  have hbr5 := ltW hyo5 hbr0
                  obtain ⟨lx5, x50, x51, fx5⟩ := bx2 (X5.toExt hyo5)
                  obtain ⟨v, hv⟩ : ∃ v, a.2.getD j 0 = v := ⟨_, rfl⟩
                  obtain ⟨z, hz9⟩ : ∃ z, row.getD j 0 = z := ⟨_, rfl⟩
                  obtain ⟨fj, hfj⟩ : ∃ f, fitS vars a.2 row j = f := ⟨_, rfl⟩
                  rw [hv] at hcv hfs
                  rw [hz9] at hcr' hfs
                  rw [hfj] at hfs ⊢
                  have HFJ := Lib.hid hfs
                  clear hv hz9 hfj hfs
                  by_cases hm : v ∈ vars
                  · obtain ⟨p, hp1, hp2, hp3⟩ := iof_at (r := nr) hm
                    have hvm := HVM2.out v hm
                    obtain ⟨b9, o9, rfl, hb9, hc9⟩ := (hv9.toExt hy5).atI' (n := p) (by rw [HNL.out]; exact hp1)
                    have hpl : (p : Int) < (nr.length : Int) := by rw [HNL.out]; omega
                    obtain ⟨x, hx8⟩ : ∃ x, nr.getD p 0 = x := ⟨_, rfl⟩
                    rw [hx8] at hc9 hp3
                    rw [hp3] at hvm
                    have HI := Lib.hid hp2
                    have hpz : (0 : Int) ≤ (p : Int) := by omega
                    by_cases hxz : x = z
                    · have hbe : (x == z) = true := by simpa using hxz
                      have HFN := Lib.hid (show fitS vars a.2 row (j + 1) = fj by rw [HFJ.out, ← hvm, decide_eq_true hm, decide_eq_true hxz]; simp)
                      clear hvm hm hp2 hp3 hx8 hxz
                      cases fj
                      all_goals
                        go_upto_region 20 with (go_at_call 125; refine (l7Find_any hvl9 hrr).mono ?_; rintro e w6 ⟨rfl, hx6⟩; rw [HI.out]; have hc9 := cellW hx6 hb9 hc9; have hb9 := ltW hx6 hb9; have hcr' := cellW hx6 hbr' hcr'; have hbr' := ltW hx6 hbr'; have hcr5 := cellW hx6 hbr5 hcr5; have hbr5 := ltW hx6 hbr5; obtain ⟨lx6, x60, x61, fx6⟩ := bx2 (X5.toExt (trans_ext hyo5 hx6)))
                        go_wp2_with fail
                        refine wp_region_ext (by kernel_rfl) (by kernel_rfl) ?_
                        repeat (go_big_quiet_step (fail))
                        refine wpQuiet_nil ?_
                        rintro _ ⟨zz, rfl⟩
                        go_wp2
                        exact ⟨⟨j + 1, by go_num, by omega, by rw [HFN.out], trans_ext (trans_ext hy5 hx6) ⟨_, rfl⟩⟩, by simp [intOf]; omega⟩
                    · have hbe : (x == z) = false := by simpa using hxz
                      have HFN := Lib.hid (show fitS vars a.2 row (j + 1) = false by rw [HFJ.out, ← hvm, decide_eq_false hxz]; simp)
                      clear hvm hm hp2 hp3 hx8 hxz
                      cases fj
                      all_goals
                        go_upto_region 20 with (go_at_call 125; refine (l7Find_any hvl9 hrr).mono ?_; rintro e w6 ⟨rfl, hx6⟩; rw [HI.out]; have hc9 := cellW hx6 hb9 hc9; have hb9 := ltW hx6 hb9; have hcr' := cellW hx6 hbr' hcr'; have hbr' := ltW hx6 hbr'; have hcr5 := cellW hx6 hbr5 hcr5; have hbr5 := ltW hx6 hbr5; obtain ⟨lx6, x60, x61, fx6⟩ := bx2 (X5.toExt (trans_ext hyo5 hx6)))
                        go_wp2_with fail
                        refine wp_region_ext (by kernel_rfl) (by kernel_rfl) ?_
                        repeat (go_big_quiet_step (fail))
                        refine wpQuiet_nil ?_
                        rintro _ ⟨zz, rfl⟩
                        go_wp2
                        exact ⟨⟨j + 1, by go_num, by omega, by rw [HFN.out], trans_ext (trans_ext hy5 hx6) ⟨_, rfl⟩⟩, by simp [intOf]; omega⟩
                  · have HI := Lib.hid (iof_none (k := 0) hm)
                    have HFN := Lib.hid (show fitS vars a.2 row (j + 1) = false by rw [HFJ.out, decide_eq_false hm]; simp)
                    clear hm
                    cases fj
                    all_goals
                      go_upto_region 20 with (go_at_call 125; refine (l7Find_any hvl9 hrr).mono ?_; rintro e w6 ⟨rfl, hx6⟩; rw [HI.out])
                      go_wp2_with fail
                      refine wp_region_ext (by kernel_rfl) (by kernel_rfl) ?_
                      repeat (go_big_quiet_step (fail))
                      refine wpQuiet_nil ?_
                      rintro _ ⟨zz, rfl⟩
                      go_wp2
                      exact ⟨⟨j + 1, by go_num, by omega, by rw [HFN.out], trans_ext (trans_ext hy5 hx6) ⟨_, rfl⟩⟩, by simp [intOf]; omega⟩
                · obtain rfl : j = a.2.length := by omega
                  rw [HFA.out]
                  obtain ⟨t, ht⟩ : ∃ t, (rowFit a.2 row && a.2.all fun v => decide (v ∈ vars)) = t := ⟨_, rfl⟩
                  rw [ht] at HST ⊢
                  have hSo := HS.out.toExt hyo5
                  have hy4' := trans_ext hy hyo5
                  clear ht
                  cases t with
                  | false =>
                    have HK := Lib.hid (show fitRS a.2 (r.2.take (k + 1)) = fl by rw [HST.out]; simp)
                    go_wp2
                    exact ⟨⟨k + 1, F, by go_num, by omega, by rw [HK.out]; exact hSo, HN, HF, hy4'⟩, by simp [intOf]; omega⟩
                  | true =>
                    have HK := Lib.hid (show fitRS a.2 (r.2.take (k + 1)) = fl ++ [nr] by rw [HST.out, if_pos rfl, HNR.out])
                    have hS39 := HS3.out.toExt hy5
                    have hN3 := nodup_more HN.out HS3.out.nodup HSlt.out HF3.out
                    have hlk2 : fl.length + 1 ≤ 2000000000 := by omega
                    go_wp2_with (at_builtin; refine wpList_appN (E := sRow) (d := nr) (G := F3) rfl _ _ _ rfl tIIr rfl rfl rfl (by simp) ⟨_, rfl, hS39⟩ rfl (by simp [Value.oneCell']) hSo hN3 hlk2 (by omega) ?_; intro v' w' F' hS' hC' hN' hF')
                    refine ⟨⟨k + 1, F', by go_num, by omega, by rw [HK.out]; exact hS', Lib.hid hN', Lib.hid (fun b hb => ?_), hC'.isExt hy4' HF.out⟩, by simp [intOf]; omega⟩
                    have hzw := size_of_ext hy
                    have hzv := size_of_ext hyo5
                    rcases hF' b hb with h | h | h
                    · exact HF.out b h
                    · have := HF3.out b h; omega
                    · omega
        · obtain rfl : k = r.2.length := by omega
          rw [List.take_of_length_le (Nat.le_refl _)] at hS
          have hlk := fitRS_len (xs := a.2) (rows := r.2) (k := r.2.length)
          rw [List.take_of_length_le (Nat.le_refl _)] at hlk
          have HLE := Lib.hid (fun x (hx : x ∈ fitRS a.2 r.2) => show x.length ≤ 1000000000 by rw [HFE.out r.2 x hx]; omega)
          obtain ⟨fl, hfl⟩ : ∃ l, fitRS a.2 r.2 = l := ⟨_, rfl⟩
          rw [hfl] at hS hlk HLE HNW
          obtain ⟨A7, c7, rfl, hc7, _, rv7⟩ := hS.view (V := vSl 1 vI) (sSl_v sI_v)
          obtain ⟨D, hD⟩ : ∃ D, atomBd d a = D := ⟨_, rfl⟩
          have HDD := Lib.hid hD
          rw [hD] at HNW
          have hjb : fl.length ≤ 1000000000 := by omega
          have R7 := R4.toExt hy
          have HNN2 := Lib.hid HNN.out
          clear hfl hD
          go_wp2_with (go_at_call 102; rw [HNN2.out]; refine (specNewRelation_any hI64 hjb hc7 HLE.out rv7).mono ?_; rw [HNW.out]; rintro e w8 ⟨u0, u1, F8, rfl, hx8, hS8, hN8, hF8⟩; obtain ⟨A8, c8, rfl, rfl, _⟩ := sRel_form hS8; obtain ⟨lr8, r80, r81, fr8⟩ := bx2 (R7.toExt hx8))
          have hz4 := size_of_ext hy
          have hz14 := size_of_ext x14
          have hzw := size_of_ext xw1
          have hzR := R7.1
          refine bodyPost_ret (v := .agg #[.int .i64 D.1, .slice A8 D.2.length c8]) (by simp [results, Try.results70, go_sem, *]) rfl ⟨_, _, F8, rfl, (by refine x'z ?_; repeat (with_reducible (first | exact x'a _ _ | exact x'b _ | exact x'c (by assumption) | refine x'd ?_ (by assumption) | refine x'e ?_ _ | refine x'f ?_ _ | refine x'g ?_ | refine x'h ?_ ?_ _ | refine x'i ?_ _ | refine x'j ?_ | refine x'k ?_ _ | refine x'l ?_ _ _ | refine x'm ?_ | assumption | (refine x'n ?_; omega) | omega))), ?_, hN8, fun b hb => ?_⟩
          · rw [HDD.out]
            have hS9 : sRel w8 [.int .i64 D.1, .slice A8 D.2.length c8] D F8 := hS8
            refine OD.chg (E := sRel) (G := [w.heap.size + 1 + 1]) hS9 (by repeat (with_reducible (first | exact Chg.refl _ _ | refine Chg.trans0 ?_ (by assumption) | refine Chg.extS ?_ _ | refine Chg.alloc ?_ _ | refine Chg.drew ?_ | refine Chg.setCell ?_ (.inl (by simp)) _))) ?_
            intro b hb h
            have := hF8 b hb
            rw [List.mem_singleton.1 h] at this
            omega
          · have := hF8 b hb
            omega
    · have hne : (r.1 != (a.2.length : Int)) = true := by simpa using hr
      have HZ := Lib.hid (HZ2.out r HO.out hr)
      clear hr
      go_wp2_with fail
      refine bodyPost_ret (v := .agg #[.int .i64 n, .slice none 0 0]) (by simp [results, Try.results70, go_sem, *]) rfl ⟨_, _, [], rfl, (by refine x'z ?_; repeat (with_reducible (first | exact x'a _ _ | exact x'b _ | exact x'c (by assumption) | refine x'd ?_ (by assumption) | refine x'e ?_ _ | refine x'f ?_ _ | refine x'g ?_ | refine x'h ?_ ?_ _ | refine x'i ?_ _ | refine x'j ?_ | refine x'k ?_ _ | refine x'l ?_ _ _ | refine x'm ?_ | assumption | (refine x'n ?_; omega) | omega))), ?_, by simp, by simp⟩
      rw [HZ.out]
      exact sRel_mk (F := []) ⟨_, rfl, SV.nil⟩
theorem specAtomBindings_x {A B : Option Addr} {c e : Nat} {d : Dbd} {s : ByteArray} {xs : List Int} {w : World} (hd : WDb d) (h1 : RV 3 vTb w A d) (hx : xs.length ≤ 1000000000) (h2 : RI w B xs) :
    Calls Try.prog 70 #[.agg #[.slice A d.length c], .agg #[.string s, .slice B xs.length e]] w (RelRes (atomBd d (s, xs)) w) := specAtomBindings_any (a := (s, xs)) hd h1 hx h2
end Go.Proofs.Ytfigcfajkilhiaa

/- The program's semijoin. -/
namespace Go.Proofs.Ytfigcfajkilhiaa
open Go.RowKit

def zVR : VRd := ([], 0, [])
def VROut (o : Option VRd) (w : World) (e : Ending) (w' : World) : Prop := ∃ v0 v1 v2 F, e = .returned (.tuple #[.agg #[v0, v1, v2], .bool o.isSome]) ∧ (∃ y, w' = ext w y) ∧ sVR w' [v0, v1, v2] (o.getD zVR) F ∧ F.Nodup ∧ ∀ b ∈ F, w.heap.size ≤ b
theorem sVR_mk {w : World} {v0 v2 : Value} {va : List Int} {z : Int} {rows : List (List Int)} {F G : List Nat} (h : SV 3 1 sI w v0 va F) (h2 : sII w [v2] rows G) : sVR w [v0, .int .i64 z, v2] (va, z, rows) (F ++ G) := sP_mk (d := (va, z, rows)) ⟨_, rfl, h⟩ (sRel_mk h2)
theorem vrOut_none {w w' : World} {e : Ending} {o : Option VRd} (ho : o = none) (he : e = .returned (.tuple #[.agg #[.slice none 0 0, .int .i64 0, .slice none 0 0], .bool false])) (hx : ∃ y, w' = ext w y) : VROut o w e w' := by
  subst ho
  exact ⟨.slice none 0 0, .int .i64 0, .slice none 0 0, [], he, hx, sVR_mk (F := []) (G := []) SV.nil ⟨_, rfl, SV.nil⟩, by simp, by simp⟩
theorem semi_step {va vb : List Int} {ra rb : List (List Int)} {k : Nat} (h : k < ra.length) : semiL va (ra.take (k + 1)) vb rb = semiL va (ra.take k) vb rb ++ (if (rb.any fun s => agreeB va ra[k] vb s) = true then [ra[k]] else []) := by
  unfold semiL
  rw [List.take_succ_eq_append_getElem h, List.filter_append, List.filter_cons, List.filter_nil]
theorem semiL_len {va vb : List Int} {ra rb : List (List Int)} {k : Nat} : (semiL va (ra.take k) vb rb).length ≤ k := Nat.le_trans (List.length_filter_le _ _) (by simp; omega)
def CutX (va : List Int) (ar : Int) (W : World) (v : Value) (wx : World) : Prop := ∃ b A1 c1 F1, v = .pointer (some ⟨b, 0, none⟩) ∧ BoxAt wx b #[.slice A1 va.length c1, .int .i64 ar, .slice none 0 0] ∧ SV 3 1 sI wx (.slice A1 va.length c1) va F1 ∧ (∀ x ∈ F1, W.heap.size ≤ x ∧ x ≠ b) ∧ W.heap.size ≤ b ∧ ∃ y, wx = ext W y
theorem glueO_some {un va r vb s : List Int} (h : un.all (okG va r vb s) = agreeB va r vb s) : (glueO un va r vb s).isSome = agreeB va r vb s := by
  unfold glueO
  rw [h]
  cases agreeB va r vb s <;> rfl
theorem any_snoc {p : List Int → Bool} {l : List (List Int)} {k : Nat} (h : k < l.length) (h1 : (l.take k).any p = false) (h2 : p l[k] = false) : (l.take (k + 1)).any p = false := by
  rw [List.take_succ_eq_append_getElem h, List.any_append, h1]
  simpa using h2
theorem any_hit {p : List Int → Bool} {l : List (List Int)} {k : Nat} (h : k < l.length) (h2 : p l[k] = true) : l.any p = true := List.any_eq_true.2 ⟨_, List.getElem_mem h, h2⟩
set_option maxRecDepth 100000 in
set_option maxHeartbeats 16000000 in
theorem SemiJoin_any {A B A' B' : Option Addr} {a b a' b' : Nat} {d d' : VRd} {w : World} (hb : BVR d) (h : vVR w [.slice A d.1.length a, .int .i64 d.2.1, .slice B d.2.2.length b] d) (hb' : BVR d') (h' : vVR w [.slice A' d'.1.length a', .int .i64 d'.2.1, .slice B' d'.2.2.length b'] d') :
    Calls Try.prog 41 #[.agg #[.slice A d.1.length a, .int .i64 d.2.1, .slice B d.2.2.length b], .agg #[.slice A' d'.1.length a', .int .i64 d'.2.1, .slice B' d'.2.2.length b']] w (VROut (semiR d d') w) := by
  obtain ⟨r1, r2, _⟩ := vVR_get h
  obtain ⟨s1, s2, _⟩ := vVR_get h'
  have r3 := (vII_get (vRel_get r2).2).2
  have s3 := (vII_get (vRel_get s2).2).2
  have HVa := Lib.hid h
  have HVb := Lib.hid h'
  have Hba := Lib.hid hb
  have Hbb := Lib.hid hb'
  obtain ⟨t1, ht1⟩ : ∃ t, vrB d = t := ⟨_, rfl⟩
  obtain ⟨t2, ht2⟩ : ∃ t, vrB d' = t := ⟨_, rfl⟩
  have HT1 := Lib.hid ht1
  have HT2 := Lib.hid ht2
  clear h h' hb hb' r2 s2 ht1 ht2
  go_enter Try.func41, Try.ntmps41
  go_upto_region 1 with fail
  refine wp_name ?_
  intro W hW
  have xW : ∃ y, W = ext w y := by rw [hW.out]; exact (by refine x'z ?_; repeat (with_reducible (first | exact x'a _ _ | exact x'b _ | exact x'c (by assumption) | refine x'd ?_ (by assumption) | refine x'e ?_ _ | refine x'f ?_ _ | refine x'g ?_ | refine x'h ?_ ?_ _ | refine x'i ?_ _ | refine x'j ?_ | refine x'k ?_ _ | refine x'l ?_ _ _ | refine x'm ?_ | assumption | (refine x'n ?_; omega) | omega)))
  have BW0 : BoxAt W (w.heap.size) #[.slice A d.1.length a, .int .i64 d.2.1, .slice B d.2.2.length b] := by rw [hW.out]; refine ⟨?_, fun j => ?_, fun j => ?_⟩ <;> go_simp
  obtain ⟨lW0, bW0, fW0⟩ := BW0
  have cW0_0 : W.cell? ⟨w.heap.size, 0, none⟩ = some (.slice A d.1.length a) := bW0 0
  have cW0_1 : W.cell? ⟨w.heap.size, 1, none⟩ = some (.int .i64 d.2.1) := bW0 1
  have cW0_2 : W.cell? ⟨w.heap.size, 2, none⟩ = some (.slice B d.2.2.length b) := bW0 2
  have BW1 : BoxAt W (w.heap.size + 1) #[.slice A' d'.1.length a', .int .i64 d'.2.1, .slice B' d'.2.2.length b'] := by rw [hW.out]; refine ⟨?_, fun j => ?_, fun j => ?_⟩ <;> go_simp
  obtain ⟨lW1, bW1, fW1⟩ := BW1
  have cW1_0 : W.cell? ⟨w.heap.size + 1, 0, none⟩ = some (.slice A' d'.1.length a') := bW1 0
  have cW1_1 : W.cell? ⟨w.heap.size + 1, 1, none⟩ = some (.int .i64 d'.2.1) := bW1 1
  have cW1_2 : W.cell? ⟨w.heap.size + 1, 2, none⟩ = some (.slice B' d'.2.2.length b') := bW1 2
  have BW2 : BoxAt W (w.heap.size + 1 + 1) #[.slice none 0 0, .int .i64 0, .slice none 0 0] := by rw [hW.out]; refine ⟨?_, fun j => ?_, fun j => ?_⟩ <;> go_simp
  obtain ⟨lW2, bW2, fW2⟩ := BW2
  have cW2_0 : W.cell? ⟨w.heap.size + 1 + 1, 0, none⟩ = some (.slice none 0 0) := bW2 0
  have cW2_1 : W.cell? ⟨w.heap.size + 1 + 1, 1, none⟩ = some (.int .i64 0) := bW2 1
  have cW2_2 : W.cell? ⟨w.heap.size + 1 + 1, 2, none⟩ = some (.slice none 0 0) := bW2 2
  clear hW
  have PW : BoxAt W w.heap.size #[.slice A d.1.length a, .int .i64 d.2.1, .slice B d.2.2.length b] := ⟨lW0, bW0, fW0⟩
  have QW : BoxAt W (w.heap.size + 1) #[.slice A' d'.1.length a', .int .i64 d'.2.1, .slice B' d'.2.2.length b'] := ⟨lW1, bW1, fW1⟩
  have RW : BoxAt W (w.heap.size + 1 + 1) #[.slice none 0 0, .int .i64 0, .slice none 0 0] := ⟨lW2, bW2, fW2⟩
  cases t1 with
  | false =>
    have HZ := Lib.hid (show semiR d d' = none by unfold semiR; rw [HT1.out]; simp)
    go_wp2_with (go_at_call 44; refine (IsValidVarRelation_any Hba.out (VD.toExt HVa.out xW)).mono ?_; rintro e w3 ⟨rfl, hx3⟩; rw [HT1.out]; obtain ⟨l3, a3, a3', a3'', f3⟩ := box3 (RW.toExt hx3))
    refine bodyPost_ret (v := .tuple #[.agg #[.slice none 0 0, .int .i64 0, .slice none 0 0], .bool false]) (by simp [results, Try.results41, go_sem, *]) rfl (vrOut_none HZ.out rfl (by refine x'z ?_; repeat (with_reducible (first | exact x'a _ _ | exact x'b _ | exact x'c (by assumption) | refine x'd ?_ (by assumption) | refine x'e ?_ _ | refine x'f ?_ _ | refine x'g ?_ | refine x'h ?_ ?_ _ | refine x'i ?_ _ | refine x'j ?_ | refine x'k ?_ _ | refine x'l ?_ _ _ | refine x'm ?_ | assumption | (refine x'n ?_; omega) | omega))))
  | true =>
    cases t2 with
    | false =>
      have HZ := Lib.hid (show semiR d d' = none by unfold semiR; rw [HT2.out]; simp)
      go_wp2_with (first
        | (go_at_call 44; with_reducible refine (IsValidVarRelation_any Hba.out (VD.toExt HVa.out ?_)).mono ?_; (focus (exact xW)); rintro e w3 ⟨rfl, hx3⟩; rw [HT1.out]; obtain ⟨l3, a3, a3', a3'', f3⟩ := box3 (QW.toExt hx3))
        | (go_at_call 44; with_reducible refine (IsValidVarRelation_any Hbb.out (VD.toExt HVb.out ?_)).mono ?_; (focus (exact (trans_ext xW hx3))); rintro e w4 ⟨rfl, hx4⟩; rw [HT2.out]; obtain ⟨l4, a4, a4', a4'', f4⟩ := box3 (RW.toExt (trans_ext hx3 hx4))))
      refine bodyPost_ret (v := .tuple #[.agg #[.slice none 0 0, .int .i64 0, .slice none 0 0], .bool false]) (by simp [results, Try.results41, go_sem, *]) rfl (vrOut_none HZ.out rfl (by refine x'z ?_; repeat (with_reducible (first | exact x'a _ _ | exact x'b _ | exact x'c (by assumption) | refine x'd ?_ (by assumption) | refine x'e ?_ _ | refine x'f ?_ _ | refine x'g ?_ | refine x'h ?_ ?_ _ | refine x'i ?_ _ | refine x'j ?_ | refine x'k ?_ _ | refine x'l ?_ _ _ | refine x'm ?_ | assumption | (refine x'n ?_; omega) | omega))))
    | true =>
      have HA := Lib.hid (vrB_iff.1 HT1.out)
      have HB := Lib.hid (vrB_iff.1 HT2.out)
      go_upto_region 3 with (first
        | (go_at_call 44; with_reducible refine (IsValidVarRelation_any Hba.out (VD.toExt HVa.out ?_)).mono ?_; (focus (exact xW)); rintro e w3 ⟨rfl, hx3⟩; rw [HT1.out]; obtain ⟨l3, a3, a3', a3'', f3⟩ := box3 (QW.toExt hx3))
        | (go_at_call 44; with_reducible refine (IsValidVarRelation_any Hbb.out (VD.toExt HVb.out ?_)).mono ?_; (focus (exact (trans_ext xW hx3))); rintro e w4 ⟨rfl, hx4⟩; rw [HT2.out]))
      have x4 := trans_ext hx3 hx4
      have xw4 := trans_ext xW x4
      have P4 := PW.toExt x4
      have Q4 := QW.toExt x4
      have R4 := RW.toExt x4
      obtain ⟨lp, p0, p1, p2, fp⟩ := box3 P4
      have hva5 : d.1.length ≤ 5 := HA.out.len
      have hvb5 : d'.1.length ≤ 5 := HB.out.len
      clear PW QW RW lW0 bW0 fW0 cW0_0 cW0_1 cW0_2 lW1 bW1 fW1 cW1_0 cW1_1 cW1_2 lW2 bW2 fW2 cW2_0 cW2_1 cW2_2 l3 a3 a3' a3'' f3 xW hx3 hx4
      go_cut [6] (CutX d.1 d.2.1 w4)
      case first =>
        go_region_held3 (fun w' => (∀ a : Addr, a.block < w4.heap.size → w'.cell? a = w4.cell? a) ∧ ∃ y, w' = ext w4 y) (first | exact heldE (by refine x'z ?_; repeat (with_reducible (first | exact x'a _ _ | exact x'b _ | exact x'c (by assumption) | refine x'd ?_ (by assumption) | refine x'e ?_ _ | refine x'f ?_ _ | refine x'g ?_ | refine x'h ?_ ?_ _ | refine x'i ?_ _ | refine x'j ?_ | refine x'k ?_ _ | refine x'l ?_ _ _ | refine x'm ?_ | assumption | (refine x'n ?_; omega) | omega)))) ((go_at_call 114; refine (copyInts_v (by omega) (r1.toExt (trans_ext xw4 (by refine x'z ?_; repeat (with_reducible (first | exact x'a _ _ | exact x'b _ | exact x'c (by assumption) | refine x'd ?_ (by assumption) | refine x'e ?_ _ | refine x'f ?_ _ | refine x'g ?_ | refine x'h ?_ ?_ _ | refine x'i ?_ _ | refine x'j ?_ | refine x'k ?_ _ | refine x'l ?_ _ _ | refine x'm ?_ | assumption | (refine x'n ?_; omega) | omega)))))).mono ?_; rintro e w5 ⟨v1, F1, rfl, hx5, hS1, hF1⟩; obtain ⟨A1, c1, rfl, _⟩ := hS1.form; try (obtain ⟨l6, b6, b6', b6'', f6⟩ := box3 (BoxAt.toExt (BoxAt.new w4 _ _).drew hx5))))
        all_goals
          go_wp2_with fail
          go_meet
          have hz5 := size_of_ext hx5
          have hlt1 := hS1.lt
          simp only [World.size_alloc, World.drew] at hz5 hF1
          first
            | exact ⟨w5.heap.size, A1, c1, F1, rfl, BoxAt.new _ _ _, hS1.toExt (alloc_ext _ _), fun x hx => ⟨hF1 x hx, by have := hlt1 x hx; omega⟩, size_of_ext (by refine x'z ?_; repeat (with_reducible (first | exact x'a _ _ | exact x'b _ | exact x'c (by assumption) | refine x'd ?_ (by assumption) | refine x'e ?_ _ | refine x'f ?_ _ | refine x'g ?_ | refine x'h ?_ ?_ _ | refine x'i ?_ _ | refine x'j ?_ | refine x'k ?_ _ | refine x'l ?_ _ _ | refine x'm ?_ | assumption | (refine x'n ?_; omega) | omega))), (by refine x'z ?_; repeat (with_reducible (first | exact x'a _ _ | exact x'b _ | exact x'c (by assumption) | refine x'd ?_ (by assumption) | refine x'e ?_ _ | refine x'f ?_ _ | refine x'g ?_ | refine x'h ?_ ?_ _ | refine x'i ?_ _ | refine x'j ?_ | refine x'k ?_ _ | refine x'l ?_ _ _ | refine x'm ?_ | assumption | (refine x'n ?_; omega) | omega)))⟩
            | exact ⟨w4.heap.size, A1, c1, F1, rfl, (by repeat (with_reducible (first | assumption | exact BoxAt.new _ _ _ | apply BoxAt.set3 | refine BoxAt.set3' ?_ (by omega) | apply BoxAt.set30 | apply BoxAt.set31 | apply BoxAt.set32 | apply BoxAt.set2 | refine BoxAt.set2' ?_ (by omega) | apply BoxAt.setP0 | apply BoxAt.setP1 | refine BoxAt.setO ?_ (by omega) | refine BoxAt.alloc ?_ _ | refine BoxAt.drew ?_ | refine BoxAt.toExt ?_ (by assumption)))), hS1.chg (G := [w4.heap.size]) (by repeat (with_reducible (first | exact Chg.refl _ _ | refine Chg.trans0 ?_ (by assumption) | refine Chg.extS ?_ _ | refine Chg.alloc ?_ _ | refine Chg.drew ?_ | refine Chg.setCell ?_ (.inl (by simp)) _))) (fun x hx hm => by have := hF1 x hx; rw [List.mem_singleton.1 hm] at this; omega), fun x hx => by have := hF1 x hx; omega, Nat.le_refl _, (by refine x'z ?_; repeat (with_reducible (first | exact x'a _ _ | exact x'b _ | exact x'c (by assumption) | refine x'd ?_ (by assumption) | refine x'e ?_ _ | refine x'f ?_ _ | refine x'g ?_ | refine x'h ?_ ?_ _ | refine x'i ?_ _ | refine x'j ?_ | refine x'k ?_ _ | refine x'l ?_ _ _ | refine x'm ?_ | assumption | (refine x'n ?_; omega) | omega)))⟩
      obtain ⟨bX, A1, c1, F1, rfl, BX, hSv, hF1, hbX, hxX⟩ := hcut
      obtain ⟨W5, rfl⟩ : ∃ W, W = wc := ⟨_, rfl⟩
      have HF1 := Lib.hid hF1
      clear hF1
      have P5 := P4.toExt hxX
      have Q5 := Q4.toExt hxX
      have R5 := R4.toExt hxX
      have xw5 := trans_ext xw4 hxX
      have hw4s := R4.1
      clear lp p0 p1 p2 fp P4 Q4 R4
      obtain ⟨lp, p0, p1, p2, fp⟩ := box3 P5
      obtain ⟨lq, q0, q1, q2, fq⟩ := box3 Q5
      go_wp2_with fail
      refine (unite_v (by omega) (r1.toExt xw5) (by omega) (s1.toExt xw5)).mono ?_
      rintro e W6 ⟨vu, Fu, rfl, hx6, hSu, hFu⟩
      have HFu := Lib.hid hFu
      clear hFu
      obtain ⟨Au, cu, rfl, _⟩ := hSu.form
      have hun := uniL_length d'.1 d.1
      have Hun := Lib.hid (fun v (hv : v ∈ uniL d.1 d'.1) => mem_uniL.1 hv)
      have Hag := Lib.hid (fun r s => okG_agree (un := uniL d.1 d'.1) (va := d.1) (r := r) (vb := d'.1) (s := s) (fun v => mem_uniL))
      obtain ⟨un, hune⟩ : ∃ u, uniL d.1 d'.1 = u := ⟨_, rfl⟩
      rw [hune] at hSu hun Hun Hag
      have P6 := P5.toExt hx6
      have Q6 := Q5.toExt hx6
      have R6 := R5.toExt hx6
      have X6 := BX.toExt hx6
      have hSv6 := hSv.toExt hx6
      have xw6 := trans_ext xw5 hx6
      have hW56 := size_of_ext hx6
      have hbW5 : bX < W5.heap.size := BX.1
      have hXW : bX < W6.heap.size := X6.1
      have hbXw : w.heap.size + 1 + 1 < bX := by omega
      have hunx : un.length ≤ 10 := by omega
      have HZ := Lib.hid (show semiR d d' = some (d.1, d.2.1, semiL d.1 d.2.2 d'.1 d'.2.2) by unfold semiR; rw [if_pos ⟨HT1.out, HT2.out⟩])
      have hra := HA.out.cnt
      have hrb := HB.out.cnt
      have HAl := Lib.hid HA.out.rl
      have HBl := Lib.hid HB.out.rl
      rw [hune] at *
      clear hune lp p0 p1 p2 fp lq q0 q1 q2 fq P5 Q5 R5 BX hSv HT1 HT2 HVa HVb Hba Hbb HA HB
      have hXX := X6
      obtain ⟨lx6, x60, x61, x62, fx6⟩ := box3 X6
      obtain ⟨lp6, p60, p61, p62, fp6⟩ := box3 P6
      go_wp2_with fail
      go_loopw [40] (fun i wr => ∃ (k : Nat) (A3 : Option Addr) (c3 : Nat) (F : List Nat), i = .int .i64 k ∧ k ≤ d.2.2.length ∧ BoxAt wr bX #[.slice A1 d.1.length c1, .int .i64 d.2.1, .slice A3 (semiL d.1 (d.2.2.take k) d'.1 d'.2.2).length c3] ∧ SV 48 1 sRow wr (.slice A3 (semiL d.1 (d.2.2.take k) d'.1 d'.2.2).length c3) (semiL d.1 (d.2.2.take k) d'.1 d'.2.2) F ∧ Hid F.Nodup ∧ Hid (∀ x ∈ F, W6.heap.size ≤ x) ∧ Chg [bX] W6 wr) (fun i _ => d.2.2.length - (intOf i).toNat)
      case atStart => exact ⟨0, none, 0, [], rfl, by omega, by simpa [semiL] using X6, by simpa [semiL] using SV.nil, Lib.hid (by simp), Lib.hid (by simp), Chg.refl _ _⟩
      case round =>
        obtain ⟨k, A3, c3, F, rfl, hk, hB, hS, HN, HF, hC⟩ := hrel
        clear lx6 x60 x61 x62 fx6 lp6 p60 p61 p62 fp6 hXX
        have hw : ∃ y, wr = ext w y := hC.isExt xw6 (by simp; omega)
        have P7 := P6.chg hC (by simp; omega)
        have Q7 := Q6.chg hC (by simp; omega)
        have R7 := R6.chg hC (by simp; omega)
        by_cases hlt : k < d.2.2.length
        · obtain ⟨br, orr, A4, c4, rfl, hbr, hcr, hvr⟩ := (r3.toExt hw).atV hlt
          have lr := HAl.out _ (List.getElem_mem hlt)
          have Hst := Lib.hid (semi_step (va := d.1) (vb := d'.1) (rb := d'.2.2) hlt)
          have hlk : (semiL d.1 (d.2.2.take k) d'.1 d'.2.2).length + 1 ≤ 2000000000 := by have := semiL_len (va := d.1) (vb := d'.1) (ra := d.2.2) (rb := d'.2.2) (k := k); omega
          obtain ⟨r, hr⟩ : ∃ r, d.2.2[k] = r := ⟨_, rfl⟩
          rw [hr] at hcr hvr lr Hst
          obtain ⟨sl, hsl⟩ : ∃ l, semiL d.1 (d.2.2.take k) d'.1 d'.2.2 = l := ⟨_, rfl⟩
          rw [hsl] at Hst hlk hB hS
          have HLR := Lib.hid lr
          clear hr hsl lr
          obtain ⟨lp7, p70, p71, p72, fp7⟩ := box3 P7
          obtain ⟨lq7, q70, q71, q72, fq7⟩ := box3 Q7
          have HB := Lib.hid hB
          have HS := Lib.hid hS
          have HC := Lib.hid hC
          have HSU := Lib.hid (hSu.chg hC (fun b hb h => by have := HFu.out b hb; rw [List.mem_singleton.1 h] at this; omega))
          have HSlt := Lib.hid hS.lt
          have hCs := hC.size
          have hbXr : bX < wr.heap.size := hB.1
          have hXF : bX ∉ F := fun h => by have := HF.out bX h; omega
          have HP7 := Lib.hid P7
          have HQ7 := Lib.hid Q7
          clear hB hS hC P7 Q7 R7
          obtain ⟨wo, rfl⟩ : ∃ wo : World, wo = wr := ⟨_, rfl⟩
          go_wp2_with fail
          go_loopw [48] (fun j wi => ∃ k2 : Nat, j = .int .i64 k2 ∧ k2 ≤ d'.2.2.length ∧ Hid (((d'.2.2.take k2).any fun s => agreeB d.1 r d'.1 s) = false) ∧ ∃ y, wi = ext wo y) (fun j _ => d'.2.2.length - (intOf j).toNat)
          case atStart => exact ⟨0, rfl, by omega, Lib.hid (by simp), refl_ext wo⟩
          case round =>
            obtain ⟨k2, rfl, hk2, HAN, hyi⟩ := hrel
            have hwi := trans_ext hw hyi
            obtain ⟨lp8, p80, p81, p82, fp8⟩ := box3 (HP7.out.toExt hyi)
            obtain ⟨lq8, q80, q81, q82, fq8⟩ := box3 (HQ7.out.toExt hyi)
            by_cases hlt2 : k2 < d'.2.2.length
            · obtain ⟨bs, os, A5, c5, rfl, hbs, hcs, hvs⟩ := (s3.toExt hwi).atV hlt2
              have ls := HBl.out _ (List.getElem_mem hlt2)
              have HAS := Lib.hid (fun (h : agreeB d.1 r d'.1 d'.2.2[k2] = false) => any_snoc hlt2 HAN.out h)
              have HAY := Lib.hid (fun (h : agreeB d.1 r d'.1 d'.2.2[k2] = true) => any_hit hlt2 h)
              obtain ⟨s, hs⟩ : ∃ s, d'.2.2[k2] = s := ⟨_, rfl⟩
              rw [hs] at hcs hvs ls HAS HAY
              have HLS := Lib.hid ls
              clear ls
              obtain ⟨o, ho⟩ : ∃ o, glueO un d.1 r d'.1 s = o := ⟨_, rfl⟩
              have HG := Lib.hid ho
              have hos : o.isSome = agreeB d.1 r d'.1 s := by rw [← ho]; exact glueO_some (Hag.out r s)
              obtain ⟨t, ht⟩ : ∃ t, agreeB d.1 r d'.1 s = t := ⟨_, rfl⟩
              rw [ht] at hos HAS HAY
              have HOS := Lib.hid hos
              have hruw := (HSU.out.toExt hyi).toView sI_v
              clear hs ho hos ht
              cases t with
              | false =>
                have HAS2 := Lib.hid (HAS.out rfl)
                go_wp2_with (go_at_call 116; refine (glue_any (by omega) hruw (by omega) (r1.toExt hwi) HLR.out (hvr.toExt hyi) (by omega) (s1.toExt hwi) HLS.out hvs Hun.out).mono ?_; rw [HG.out]; rintro e w8 ⟨vg, Fg, rfl, hx8, hSg, hFg⟩; rw [HOS.out])
                exact ⟨⟨k2 + 1, by go_num, by omega, Lib.hid HAS2.out, trans_ext hyi hx8⟩, by simp [intOf]; omega⟩
              | true =>
                have HST := Lib.hid (show semiL d.1 (d.2.2.take (k + 1)) d'.1 d'.2.2 = sl ++ [r] by rw [Hst.out, if_pos (HAY.out rfl)])
                go_upto_region 13 with (go_at_call 116; refine (glue_any (by omega) hruw (by omega) (r1.toExt hwi) HLR.out (hvr.toExt hyi) (by omega) (s1.toExt hwi) HLS.out hvs Hun.out).mono ?_; rw [HG.out]; rintro e w8 ⟨vg, Fg, rfl, hx8, hSg, hFg⟩; rw [HOS.out])
                have B8 := HB.out.toExt (trans_ext hyi hx8)
                obtain ⟨l8, b80, b81, b82, f8⟩ := box3 B8
                have hy8 := trans_ext hyi hx8
                have HS8 := Lib.hid (HS.out.toExt hy8)
                have hbX8 : bX < w8.heap.size := B8.1
                have hz8 := size_of_ext hy8
                have HR := Lib.hid (hvr.toExt hy8)
                have HB8 := Lib.hid B8
                have HFl8 : Hid (∀ b ∈ F, b < w8.drew.heap.size) := Lib.hid (fun b hb => Nat.lt_of_lt_of_le (HSlt.out b hb) (by simpa using hz8))
                have hrl : r.length ≤ 1000000000 := by rw [HLR.out]; omega
                clear hSg hFg B8 hruw lp8 p80 p81 p82 fp8 lq8 q80 q81 q82 fq8
                go_region_law (first
                  | (refine step_appB (E := sRow) (d := r) (G := F9) (cs := #[.slice A9 r.length c9]) (by rfl) _ _ _ (by rfl) tIIr (by rfl) (by rfl) (by exact BoxAt.new _ _ _) ⟨_, rfl, hS9.toExt (alloc_ext _ _)⟩ (by rfl) (by simp [Value.oneCell']) (SA9.toExt (alloc_ext _ _)) hNN (by omega) (by omega) ?_; intro v7 w7 F7 hS7 hC7 hN7 hF7; obtain ⟨A7, c7, rfl, _, _⟩ := hS7.form; have B7 := (B9.alloc (.cells #[.slice A9 r.length c9] 48)).chg hC7 hXF; obtain ⟨l7, k7, k7', k7'', f7⟩ := box3 B7)
                  | (rw [if_pos (by simp [Region.wanted])]; go_wp2_with (go_at_call 114; refine (copyInts_v hrl (HR.out.toExt (by refine x'z ?_; repeat (with_reducible (first | exact x'a _ _ | exact x'b _ | exact x'c (by assumption) | refine x'd ?_ (by assumption) | refine x'e ?_ _ | refine x'f ?_ _ | refine x'g ?_ | refine x'h ?_ ?_ _ | refine x'i ?_ _ | refine x'j ?_ | refine x'k ?_ _ | refine x'l ?_ _ _ | refine x'm ?_ | assumption | (refine x'n ?_; omega) | omega))))).mono ?_; rintro e w9 ⟨v9, F9, rfl, hx9, hS9, hF9⟩; obtain ⟨A9, c9, rfl, _, _⟩ := hS9.form; have B9 := HB8.out.drew.toExt hx9; obtain ⟨l9, k9, k9', k9'', f9⟩ := box3 B9; have SA9 := (HS8.out.toExt (drew_ext w8)).toExt hx9; have hz9 := size_of_ext hx9; have hNN := nodup_more HN.out hS9.nodup HFl8.out hF9)))
                all_goals
                  have hCa := (((((HC.out.trans0 hy8).drew).trans0 hx9).alloc (.cells #[.slice A9 r.length c9] 48)).trans hC7 (fun x hx => .inr (HF.out x hx))).setCell (p := ⟨bX, 2, none⟩) (.inl (by simp)) (.slice A7 (sl ++ [r]).length c7)
                  have hF7n : ∀ b ∈ F7, W6.heap.size ≤ b := fun b hb => by
                    rcases hF7 b hb with h | h | h
                    · exact HF.out b h
                    · have := hF9 b h; simp at this hz8; omega
                    · rw [World.size_alloc] at h; simp at hz9 hz8; omega
                  have hSf := hS7.chg ((Chg.refl [bX] w7).setCell (p := ⟨bX, 2, none⟩) (.inl (by simp)) (.slice A7 (sl ++ [r]).length c7)) (fun b hb h => by have := hF7n b hb; rw [List.mem_singleton.1 h] at this; omega)
                  have hBf := B7.set32 (u := .slice A7 (sl ++ [r]).length c7)
                  have hl1 : (sl ++ [r]).length = sl.length + 1 := by simp
                  rw [hl1] at hCa hSf hBf
                  have HL1 := Lib.hid hl1
                  clear hl1
                  have HH := Lib.hid (And.intro hSf (And.intro hBf (And.intro hCa hF7n)))
                  have HN7 := Lib.hid hN7
                  clear hCa hF7n hSf hBf hS7 hC7 hN7 hF7 B7 SA9 hS9 hF9 B9
                  go_wp2
                  exact ⟨⟨k + 1, A7, c7, F7, by go_num, by omega, by rw [HST.out, HL1.out]; exact HH.out.2.1, by rw [HST.out, HL1.out]; exact HH.out.1, Lib.hid HN7.out, Lib.hid HH.out.2.2.2, HH.out.2.2.1⟩, by simp [intOf]; omega⟩
            · have HST := Lib.hid (show semiL d.1 (d.2.2.take (k + 1)) d'.1 d'.2.2 = sl by rw [Hst.out, if_neg (by have := HAN.out; rw [List.take_of_length_le (by omega)] at this; simp [this]), List.append_nil])
              go_wp2
              exact ⟨⟨k + 1, A3, c3, F, by go_num, by omega, by rw [HST.out]; exact HB.out.toExt hyi, by rw [HST.out]; exact HS.out.toExt hyi, HN, HF, HC.out.trans0 hyi⟩, by simp [intOf]; omega⟩
        · obtain rfl : k = d.2.2.length := by omega
          rw [List.take_of_length_le (Nat.le_refl _)] at hB hS
          obtain ⟨sl, hsl⟩ : ∃ l, semiL d.1 d.2.2 d'.1 d'.2.2 = l := ⟨_, rfl⟩
          rw [hsl] at HZ hB hS
          obtain ⟨lr9, r90, r91, r92, fr9⟩ := box3 R7
          obtain ⟨lx9, x90, x91, x92, fx9⟩ := box3 hB
          have hSv9 := hSv6.chg hC (fun b hb h => (HF1.out b hb).2 (by simpa using h))
          have hlt9 := hSv6.lt
          clear hsl
          go_wp2
          refine bodyPost_ret (v := .tuple #[.agg #[.slice A1 d.1.length c1, .int .i64 d.2.1, .slice A3 sl.length c3], .bool true]) (by simp [results, Try.results41, go_sem, *]) rfl ⟨_, _, _, F1 ++ F, by rw [HZ.out]; rfl, (by refine x'z ?_; repeat (with_reducible (first | exact x'a _ _ | exact x'b _ | exact x'c (by assumption) | refine x'd ?_ (by assumption) | refine x'e ?_ _ | refine x'f ?_ _ | refine x'g ?_ | refine x'h ?_ ?_ _ | refine x'i ?_ _ | refine x'j ?_ | refine x'k ?_ _ | refine x'l ?_ _ _ | refine x'm ?_ | assumption | (refine x'n ?_; omega) | omega))), ?_, ?_, fun b hb => ?_⟩
          · rw [HZ.out]
            refine sVR_mk (hSv9.chg (G := [w.heap.size + 1 + 1]) (by repeat (with_reducible (first | exact Chg.refl _ _ | refine Chg.trans0 ?_ (by assumption) | refine Chg.extS ?_ _ | refine Chg.alloc ?_ _ | refine Chg.drew ?_ | refine Chg.setCell ?_ (.inl (by simp)) _))) ?_) (OD.chg (E := sII) (G := [w.heap.size + 1 + 1]) ⟨_, rfl, hS⟩ (by repeat (with_reducible (first | exact Chg.refl _ _ | refine Chg.trans0 ?_ (by assumption) | refine Chg.extS ?_ _ | refine Chg.alloc ?_ _ | refine Chg.drew ?_ | refine Chg.setCell ?_ (.inl (by simp)) _))) ?_)
            · intro b hb h
              have := (HF1.out b hb).1
              rw [List.mem_singleton.1 h] at this
              omega
            · intro b hb h
              have := HF.out b hb
              rw [List.mem_singleton.1 h] at this
              omega
          · exact nodup_more (n := W6.heap.size) hSv6.nodup HN.out hlt9 HF.out
          · have := size_of_ext xw4
            rcases List.mem_append.1 hb with h | h
            · have := (HF1.out b h).1; omega
            · have := HF.out b h; omega
end Go.Proofs.Ytfigcfajkilhiaa

/- The labeled relation of an atom: the program's way and the reference's. -/
namespace Go.Proofs.Ytfigcfajkilhiaa
open Go.RowKit

/-- a labeled relation handed back, newer than the call -/
def VRRes (d : VRd) (w : World) (e : Ending) (w' : World) : Prop := ∃ v0 v1 v2 F, e = .returned (.agg #[v0, v1, v2]) ∧ (∃ y, w' = ext w y) ∧ sVR w' [v0, v1, v2] d F ∧ F.Nodup ∧ ∀ b ∈ F, w.heap.size ≤ b
theorem nodup_less {F G : List Nat} {n : Nat} (h1 : F.Nodup) (h2 : G.Nodup) (h3 : ∀ b ∈ G, b < n) (h4 : ∀ b ∈ F, n ≤ b) : (F ++ G).Nodup :=
  List.nodup_append.2 ⟨h1, h2, fun a ha b hb e => by have := h4 a ha; have := h3 b hb; omega⟩
theorem cell_st3 {w : World} {B b o : Nat} {u v x y : Value} (h : w.cell? ⟨b, o, none⟩ = some y) (hl : b < w.heap.size) (hne : b ≠ B) : (((w.setCell ⟨B, 0, none⟩ u).setCell ⟨B, 1, none⟩ v).setCell ⟨B, 2, none⟩ x).cell? ⟨b, o, none⟩ = some y :=
  (Chg.cell ((((Chg.refl [B] w).setCell (.inl (by simp)) u).setCell (.inl (by simp)) v).setCell (.inl (by simp)) x) (by simpa using hne) hl).trans h
set_option maxRecDepth 100000 in
set_option maxHeartbeats 8000000 in
theorem AtomRelation_any {A B : Option Addr} {c e : Nat} {d : Dbd} {a : At} {w : World} (hd : WDb d) (h1 : RV 3 vTb w A d) (hx : a.2.length ≤ 1000000000) (h2 : RI w B a.2) :
    Calls Try.prog 67 #[.agg #[.slice A d.length c], .agg #[.string a.1, .slice B a.2.length e]] w (VRRes (atomVR d a) w) := by
  have HD := Lib.hid hd
  clear hd
  go_enter Try.func67, Try.ntmps67
  go_upto_region 1 with fail
  refine wp_name ?_
  intro W hW
  have xW : ∃ y, W = ext w y := by rw [hW.out]; exact (by refine x'z ?_; repeat (with_reducible (first | exact x'a _ _ | exact x'b _ | exact x'c (by assumption) | refine x'd ?_ (by assumption) | refine x'e ?_ _ | refine x'f ?_ _ | refine x'g ?_ | refine x'h ?_ ?_ _ | refine x'i ?_ _ | refine x'j ?_ | refine x'k ?_ _ | refine x'l ?_ _ _ | refine x'm ?_ | assumption | (refine x'n ?_; omega) | omega)))
  have PW : BoxAt W w.heap.size #[.slice A d.length c] := by rw [hW.out]; exact (by repeat (with_reducible (first | assumption | exact BoxAt.new _ _ _ | apply BoxAt.set10 | apply BoxAt.set2 | refine BoxAt.set2' ?_ (by omega) | apply BoxAt.setP0 | apply BoxAt.setP1 | refine BoxAt.setO ?_ (by omega) | refine BoxAt.alloc ?_ _ | refine BoxAt.drew ?_ | refine BoxAt.toExt ?_ (by assumption))))
  have QW : BoxAt W (w.heap.size + 1) #[.string a.1, .slice B a.2.length e] := by rw [hW.out]; refine ⟨?_, fun j => ?_, fun j => ?_⟩ <;> go_simp
  have RW : BoxAt W (w.heap.size + 1 + 1) #[.slice none 0 0, .int .i64 0, .slice none 0 0] := by rw [hW.out]; refine ⟨?_, fun j => ?_, fun j => ?_⟩ <;> go_simp
  obtain ⟨lp, p0, fp⟩ := bx1 PW
  obtain ⟨lq, q0, q1, fq⟩ := bx2 QW
  have hRs := RW.1
  clear hW
  go_region_held3 (fun w' => w'.cell? ⟨w.heap.size, 0, none⟩ = some (.slice A d.length c) ∧ w'.cell? ⟨w.heap.size + 1, 0, none⟩ = some (.string a.1) ∧ w'.cell? ⟨w.heap.size + 1, 1, none⟩ = some (.slice B a.2.length e)) (first | exact ⟨kp, kq, kq'⟩ | exact ⟨cell_st3 kp lpv (by omega), cell_st3 kq lqv (by omega), cell_st3 kq' lqv (by omega)⟩ | go_keep) (first
    | (go_at_call 66; refine (AtomVariables_any (by omega) (h2.toExt (trans_ext xW (by refine x'z ?_; repeat (with_reducible (first | exact x'a _ _ | exact x'b _ | exact x'c (by assumption) | refine x'd ?_ (by assumption) | refine x'e ?_ _ | refine x'f ?_ _ | refine x'g ?_ | refine x'h ?_ ?_ _ | refine x'i ?_ _ | refine x'j ?_ | refine x'k ?_ _ | refine x'l ?_ _ _ | refine x'm ?_ | assumption | (refine x'n ?_; omega) | omega)))))).mono ?_; rintro e wv ⟨vv, Fv, rfl, hxv, hSv, hFv⟩; obtain ⟨Av, cv, rfl, _, _⟩ := hSv.form; have hyv : ∃ y, wv = ext W y := (by refine x'z ?_; repeat (with_reducible (first | exact x'a _ _ | exact x'b _ | exact x'c (by assumption) | refine x'd ?_ (by assumption) | refine x'e ?_ _ | refine x'f ?_ _ | refine x'g ?_ | refine x'h ?_ ?_ _ | refine x'i ?_ _ | refine x'j ?_ | refine x'k ?_ _ | refine x'l ?_ _ _ | refine x'm ?_ | assumption | (refine x'n ?_; omega) | omega))); obtain ⟨lpv, kp, fpv⟩ := bx1 (PW.toExt hyv); obtain ⟨lqv, kq, kq', fqv⟩ := bx2 (QW.toExt hyv); obtain ⟨lv, r0v, r1v, r2v, frv⟩ := box3 (RW.toExt hyv))
    | (go_at_call 65; refine (AtomBindings_any HD.out (h1.toExt (trans_ext xW (by refine x'z ?_; repeat (with_reducible (first | exact x'a _ _ | exact x'b _ | exact x'c (by assumption) | refine x'd ?_ (by assumption) | refine x'e ?_ _ | refine x'f ?_ _ | refine x'g ?_ | refine x'h ?_ ?_ _ | refine x'i ?_ _ | refine x'j ?_ | refine x'k ?_ _ | refine x'l ?_ _ _ | refine x'm ?_ | assumption | (refine x'n ?_; omega) | omega))))) (by omega) (h2.toExt (trans_ext xW (by refine x'z ?_; repeat (with_reducible (first | exact x'a _ _ | exact x'b _ | exact x'c (by assumption) | refine x'd ?_ (by assumption) | refine x'e ?_ _ | refine x'f ?_ _ | refine x'g ?_ | refine x'h ?_ ?_ _ | refine x'i ?_ _ | refine x'j ?_ | refine x'k ?_ _ | refine x'l ?_ _ _ | refine x'm ?_ | assumption | (refine x'n ?_; omega) | omega)))))).mono ?_; rintro e wb ⟨u0, u1, Fb, rfl, hxb, hSb, hNb, hFb⟩; obtain ⟨Ab, cb, rfl, rfl, hIb⟩ := sRel_form hSb; have hyb : ∃ y, wb = ext W y := (by refine x'z ?_; repeat (with_reducible (first | exact x'a _ _ | exact x'b _ | exact x'c (by assumption) | refine x'd ?_ (by assumption) | refine x'e ?_ _ | refine x'f ?_ _ | refine x'g ?_ | refine x'h ?_ ?_ _ | refine x'i ?_ _ | refine x'j ?_ | refine x'k ?_ _ | refine x'l ?_ _ _ | refine x'm ?_ | assumption | (refine x'n ?_; omega) | omega))); obtain ⟨lpv, kp, fpv⟩ := bx1 (PW.toExt hyb); obtain ⟨lqv, kq, kq', fqv⟩ := bx2 (QW.toExt hyb); obtain ⟨lb, r0b, r1b, r2b, frb⟩ := box3 (RW.toExt hyb)))
  all_goals
    go_wp2_with fail
    have hzv := size_of_ext hyv
    have hzb := size_of_ext hyb
    have hlv := hSv.lt
    have hlb : ∀ b ∈ Fb, b < wb.heap.size := SMono.lt hSb
    have hSv2 : ∀ x ∈ Fv, W.heap.size ≤ x := fun x hx => Nat.le_trans (size_of_ext (by refine x'z ?_; repeat (with_reducible (first | exact x'a _ _ | exact x'b _ | exact x'c (by assumption) | refine x'd ?_ (by assumption) | refine x'e ?_ _ | refine x'f ?_ _ | refine x'g ?_ | refine x'h ?_ ?_ _ | refine x'i ?_ _ | refine x'j ?_ | refine x'k ?_ _ | refine x'l ?_ _ _ | refine x'm ?_ | assumption | (refine x'n ?_; omega) | omega)))) (hFv x hx)
    have hSb2 : ∀ x ∈ Fb, W.heap.size ≤ x := fun x hx => Nat.le_trans (size_of_ext (by refine x'z ?_; repeat (with_reducible (first | exact x'a _ _ | exact x'b _ | exact x'c (by assumption) | refine x'd ?_ (by assumption) | refine x'e ?_ _ | refine x'f ?_ _ | refine x'g ?_ | refine x'h ?_ ?_ _ | refine x'i ?_ _ | refine x'j ?_ | refine x'k ?_ _ | refine x'l ?_ _ _ | refine x'm ?_ | assumption | (refine x'n ?_; omega) | omega)))) (hFb x hx)
    refine bodyPost_ret (v := .agg #[.slice Av (avars 5 0 a.2).length cv, .int .i64 (atomBd d a).1, .slice Ab (atomBd d a).2.length cb]) (by simp [results, Try.results67, go_sem, *]) rfl ⟨_, _, _, Fv ++ Fb, rfl, (by refine x'z ?_; repeat (with_reducible (first | exact x'a _ _ | exact x'b _ | exact x'c (by assumption) | refine x'd ?_ (by assumption) | refine x'e ?_ _ | refine x'f ?_ _ | refine x'g ?_ | refine x'h ?_ ?_ _ | refine x'i ?_ _ | refine x'j ?_ | refine x'k ?_ _ | refine x'l ?_ _ _ | refine x'm ?_ | assumption | (refine x'n ?_; omega) | omega))), ?_, ?_, fun b hb => ?_⟩
    · first
        | exact sVR_mk (z := (atomBd d a).1) ((hSv.toExt hxb).chg (G := [w.heap.size + 1 + 1]) (by repeat (with_reducible (first | exact Chg.refl _ _ | refine Chg.trans0 ?_ (by assumption) | refine Chg.extS ?_ _ | refine Chg.alloc ?_ _ | refine Chg.drew ?_ | refine Chg.setCell ?_ (.inl (by simp)) _))) (fun b hb h => by have := hSv2 b hb; rw [List.mem_singleton.1 h] at this; omega)) (OD.chg (E := sII) (G := [w.heap.size + 1 + 1]) hIb (by repeat (with_reducible (first | exact Chg.refl _ _ | refine Chg.trans0 ?_ (by assumption) | refine Chg.extS ?_ _ | refine Chg.alloc ?_ _ | refine Chg.drew ?_ | refine Chg.setCell ?_ (.inl (by simp)) _))) (fun b hb h => by have := hSb2 b hb; rw [List.mem_singleton.1 h] at this; omega))
        | exact sVR_mk (z := (atomBd d a).1) (hSv.chg (G := [w.heap.size + 1 + 1]) (by repeat (with_reducible (first | exact Chg.refl _ _ | refine Chg.trans0 ?_ (by assumption) | refine Chg.extS ?_ _ | refine Chg.alloc ?_ _ | refine Chg.drew ?_ | refine Chg.setCell ?_ (.inl (by simp)) _))) (fun b hb h => by have := hSv2 b hb; rw [List.mem_singleton.1 h] at this; omega)) (OD.chg (E := sII) (G := [w.heap.size + 1 + 1]) (OD.toExt hIb hxv) (by repeat (with_reducible (first | exact Chg.refl _ _ | refine Chg.trans0 ?_ (by assumption) | refine Chg.extS ?_ _ | refine Chg.alloc ?_ _ | refine Chg.drew ?_ | refine Chg.setCell ?_ (.inl (by simp)) _))) (fun b hb h => by have := hSb2 b hb; rw [List.mem_singleton.1 h] at this; omega))
    · first
        | exact nodup_more hSv.nodup hNb hlv hFb
        | exact nodup_less hSv.nodup hNb hlb hFv
    · rcases List.mem_append.1 hb with h | h
      · have := hSv2 b h; omega
      · have := hSb2 b h; omega
theorem AtomRelation_x {A B : Option Addr} {c e : Nat} {d : Dbd} {s : ByteArray} {xs : List Int} {w : World} (hd : WDb d) (h1 : RV 3 vTb w A d) (hx : xs.length ≤ 1000000000) (h2 : RI w B xs) :
    Calls Try.prog 67 #[.agg #[.slice A d.length c], .agg #[.string s, .slice B xs.length e]] w (VRRes (atomVR d (s, xs)) w) := AtomRelation_any (a := (s, xs)) hd h1 hx h2
end Go.Proofs.Ytfigcfajkilhiaa

/- The program's natural join. -/
namespace Go.Proofs.Ytfigcfajkilhiaa
open Go.RowKit

def jrow (un va r vb : List Int) (rb : List (List Int)) : List (List Int) := (rb.filter fun s => agreeB va r vb s).map fun s => glueR un va r vb s
theorem joinL_step {un va vb : List Int} {ra rb : List (List Int)} {k : Nat} (h : k < ra.length) : joinL un va (ra.take (k + 1)) vb rb = joinL un va (ra.take k) vb rb ++ jrow un va ra[k] vb rb := by
  unfold joinL jrow
  rw [List.take_succ_eq_append_getElem h, List.flatMap_append]
  simp
theorem jrow_step {un va r vb : List Int} {rb : List (List Int)} {k : Nat} (h : k < rb.length) : jrow un va r vb (rb.take (k + 1)) = jrow un va r vb (rb.take k) ++ (if agreeB va r vb rb[k] = true then [glueR un va r vb rb[k]] else []) := by
  unfold jrow
  rw [List.take_succ_eq_append_getElem h, List.filter_append, List.filter_cons, List.filter_nil, List.map_append]
  by_cases h1 : agreeB va r vb rb[k] = true <;> simp [h1]
theorem jrow_len {un va r vb : List Int} {rb : List (List Int)} {k : Nat} : (jrow un va r vb (rb.take k)).length ≤ k := by
  unfold jrow
  rw [List.length_map]
  exact Nat.le_trans (List.length_filter_le _ _) (by simp; omega)
theorem joinL_mono {un va vb : List Int} {ra rb : List (List Int)} {k : Nat} : (joinL un va (ra.take k) vb rb).length ≤ (joinL un va ra vb rb).length := by
  have : joinL un va ra vb rb = joinL un va (ra.take k) vb rb ++ joinL un va (ra.drop k) vb rb := by
    unfold joinL
    rw [← List.flatMap_append, List.take_append_drop]
  rw [this]
  simp
theorem glueO_get {un va r vb s : List Int} (h : un.all (okG va r vb s) = agreeB va r vb s) (h2 : agreeB va r vb s = true) : glueO un va r vb s = some (glueR un va r vb s) := by
  unfold glueO
  rw [h, h2]
  rfl
set_option maxRecDepth 100000 in
set_option maxHeartbeats 16000000 in
theorem NaturalJoin_any {A B A' B' : Option Addr} {a b a' b' : Nat} {d d' : VRd} {w : World} (hb : BVR d) (h : vVR w [.slice A d.1.length a, .int .i64 d.2.1, .slice B d.2.2.length b] d) (hb' : BVR d') (h' : vVR w [.slice A' d'.1.length a', .int .i64 d'.2.1, .slice B' d'.2.2.length b'] d') :
    Calls Try.prog 50 #[.agg #[.slice A d.1.length a, .int .i64 d.2.1, .slice B d.2.2.length b], .agg #[.slice A' d'.1.length a', .int .i64 d'.2.1, .slice B' d'.2.2.length b']] w (VROut (joinR d d') w) := by
  obtain ⟨r1, r2, _⟩ := vVR_get h
  obtain ⟨s1, s2, _⟩ := vVR_get h'
  have r3 := (vII_get (vRel_get r2).2).2
  have s3 := (vII_get (vRel_get s2).2).2
  have HVa := Lib.hid h
  have HVb := Lib.hid h'
  have Hba := Lib.hid hb
  have Hbb := Lib.hid hb'
  obtain ⟨t1, ht1⟩ : ∃ t, vrB d = t := ⟨_, rfl⟩
  obtain ⟨t2, ht2⟩ : ∃ t, vrB d' = t := ⟨_, rfl⟩
  have HT1 := Lib.hid ht1
  have HT2 := Lib.hid ht2
  clear h h' hb hb' r2 s2 ht1 ht2
  go_enter Try.func50, Try.ntmps50
  go_upto_region 1 with fail
  refine wp_name ?_
  intro W hW
  have xW : ∃ y, W = ext w y := by rw [hW.out]; exact (by refine x'z ?_; repeat (with_reducible (first | exact x'a _ _ | exact x'b _ | exact x'c (by assumption) | refine x'd ?_ (by assumption) | refine x'e ?_ _ | refine x'f ?_ _ | refine x'g ?_ | refine x'h ?_ ?_ _ | refine x'i ?_ _ | refine x'j ?_ | refine x'k ?_ _ | refine x'l ?_ _ _ | refine x'm ?_ | assumption | (refine x'n ?_; omega) | omega)))
  have BW0 : BoxAt W (w.heap.size) #[.slice A d.1.length a, .int .i64 d.2.1, .slice B d.2.2.length b] := by rw [hW.out]; refine ⟨?_, fun j => ?_, fun j => ?_⟩ <;> go_simp
  obtain ⟨lW0, bW0, fW0⟩ := BW0
  have cW0_0 : W.cell? ⟨w.heap.size, 0, none⟩ = some (.slice A d.1.length a) := bW0 0
  have cW0_1 : W.cell? ⟨w.heap.size, 1, none⟩ = some (.int .i64 d.2.1) := bW0 1
  have cW0_2 : W.cell? ⟨w.heap.size, 2, none⟩ = some (.slice B d.2.2.length b) := bW0 2
  have BW1 : BoxAt W (w.heap.size + 1) #[.slice A' d'.1.length a', .int .i64 d'.2.1, .slice B' d'.2.2.length b'] := by rw [hW.out]; refine ⟨?_, fun j => ?_, fun j => ?_⟩ <;> go_simp
  obtain ⟨lW1, bW1, fW1⟩ := BW1
  have cW1_0 : W.cell? ⟨w.heap.size + 1, 0, none⟩ = some (.slice A' d'.1.length a') := bW1 0
  have cW1_1 : W.cell? ⟨w.heap.size + 1, 1, none⟩ = some (.int .i64 d'.2.1) := bW1 1
  have cW1_2 : W.cell? ⟨w.heap.size + 1, 2, none⟩ = some (.slice B' d'.2.2.length b') := bW1 2
  have BW2 : BoxAt W (w.heap.size + 1 + 1) #[.slice none 0 0, .int .i64 0, .slice none 0 0] := by rw [hW.out]; refine ⟨?_, fun j => ?_, fun j => ?_⟩ <;> go_simp
  obtain ⟨lW2, bW2, fW2⟩ := BW2
  have cW2_0 : W.cell? ⟨w.heap.size + 1 + 1, 0, none⟩ = some (.slice none 0 0) := bW2 0
  have cW2_1 : W.cell? ⟨w.heap.size + 1 + 1, 1, none⟩ = some (.int .i64 0) := bW2 1
  have cW2_2 : W.cell? ⟨w.heap.size + 1 + 1, 2, none⟩ = some (.slice none 0 0) := bW2 2
  clear hW
  have PW : BoxAt W w.heap.size #[.slice A d.1.length a, .int .i64 d.2.1, .slice B d.2.2.length b] := ⟨lW0, bW0, fW0⟩
  have QW : BoxAt W (w.heap.size + 1) #[.slice A' d'.1.length a', .int .i64 d'.2.1, .slice B' d'.2.2.length b'] := ⟨lW1, bW1, fW1⟩
  have RW : BoxAt W (w.heap.size + 1 + 1) #[.slice none 0 0, .int .i64 0, .slice none 0 0] := ⟨lW2, bW2, fW2⟩
  cases t1 with
  | false =>
    have HZ := Lib.hid (show joinR d d' = none by unfold joinR; rw [HT1.out]; simp)
    go_wp2_with (go_at_call 44; refine (IsValidVarRelation_any Hba.out (VD.toExt HVa.out xW)).mono ?_; rintro e w3 ⟨rfl, hx3⟩; rw [HT1.out]; obtain ⟨l3, a3, a3', a3'', f3⟩ := box3 (RW.toExt hx3))
    refine bodyPost_ret (v := .tuple #[.agg #[.slice none 0 0, .int .i64 0, .slice none 0 0], .bool false]) (by simp [results, Try.results50, go_sem, *]) rfl (vrOut_none HZ.out rfl (by refine x'z ?_; repeat (with_reducible (first | exact x'a _ _ | exact x'b _ | exact x'c (by assumption) | refine x'd ?_ (by assumption) | refine x'e ?_ _ | refine x'f ?_ _ | refine x'g ?_ | refine x'h ?_ ?_ _ | refine x'i ?_ _ | refine x'j ?_ | refine x'k ?_ _ | refine x'l ?_ _ _ | refine x'm ?_ | assumption | (refine x'n ?_; omega) | omega))))
  | true =>
    cases t2 with
    | false =>
      have HZ := Lib.hid (show joinR d d' = none by unfold joinR; rw [HT2.out]; simp)
      go_wp2_with (first
        | (go_at_call 44; with_reducible refine (IsValidVarRelation_any Hba.out (VD.toExt HVa.out ?_)).mono ?_; (focus (exact xW)); rintro e w3 ⟨rfl, hx3⟩; rw [HT1.out]; obtain ⟨l3, a3, a3', a3'', f3⟩ := box3 (QW.toExt hx3))
        | (go_at_call 44; with_reducible refine (IsValidVarRelation_any Hbb.out (VD.toExt HVb.out ?_)).mono ?_; (focus (exact (trans_ext xW hx3))); rintro e w4 ⟨rfl, hx4⟩; rw [HT2.out]; obtain ⟨l4, a4, a4', a4'', f4⟩ := box3 (RW.toExt (trans_ext hx3 hx4))))
      refine bodyPost_ret (v := .tuple #[.agg #[.slice none 0 0, .int .i64 0, .slice none 0 0], .bool false]) (by simp [results, Try.results50, go_sem, *]) rfl (vrOut_none HZ.out rfl (by refine x'z ?_; repeat (with_reducible (first | exact x'a _ _ | exact x'b _ | exact x'c (by assumption) | refine x'd ?_ (by assumption) | refine x'e ?_ _ | refine x'f ?_ _ | refine x'g ?_ | refine x'h ?_ ?_ _ | refine x'i ?_ _ | refine x'j ?_ | refine x'k ?_ _ | refine x'l ?_ _ _ | refine x'm ?_ | assumption | (refine x'n ?_; omega) | omega))))
    | true =>
      have HA := Lib.hid (vrB_iff.1 HT1.out)
      have HB := Lib.hid (vrB_iff.1 HT2.out)
      go_upto_region 3 with (first
        | (go_at_call 44; with_reducible refine (IsValidVarRelation_any Hba.out (VD.toExt HVa.out ?_)).mono ?_; (focus (exact xW)); rintro e w3 ⟨rfl, hx3⟩; rw [HT1.out]; obtain ⟨l3, a3, a3', a3'', f3⟩ := box3 (QW.toExt hx3))
        | (go_at_call 44; with_reducible refine (IsValidVarRelation_any Hbb.out (VD.toExt HVb.out ?_)).mono ?_; (focus (exact (trans_ext xW hx3))); rintro e w4 ⟨rfl, hx4⟩; rw [HT2.out]))
      have x4 := trans_ext hx3 hx4
      have xw4 := trans_ext xW x4
      have P4 := PW.toExt x4
      have Q4 := QW.toExt x4
      have R4 := RW.toExt x4
      obtain ⟨lp, p0, p1, p2, fp⟩ := box3 P4
      obtain ⟨lq, q0, q1, q2, fq⟩ := box3 Q4
      have hva5 : d.1.length ≤ 5 := HA.out.len
      have hvb5 : d'.1.length ≤ 5 := HB.out.len
      clear PW QW RW lW0 bW0 fW0 cW0_0 cW0_1 cW0_2 lW1 bW1 fW1 cW1_0 cW1_1 cW1_2 lW2 bW2 fW2 cW2_0 cW2_1 cW2_2 l3 a3 a3' a3'' f3 xW hx3 hx4
      go_wp2_with fail
      refine (unite_v (by omega) (r1.toExt xw4) (by omega) (s1.toExt xw4)).mono ?_
      rintro e W6 ⟨vu, Fu, rfl, hx6, hSu, hFu⟩
      obtain ⟨Au, cu, rfl, _⟩ := hSu.form
      have HFu := Lib.hid hFu
      have hun := uniL_length d'.1 d.1
      have Hun := Lib.hid (fun v (hv : v ∈ uniL d.1 d'.1) => mem_uniL.1 hv)
      have Hag := Lib.hid (fun r s => okG_agree (un := uniL d.1 d'.1) (va := d.1) (r := r) (vb := d'.1) (s := s) (fun v => mem_uniL))
      have HJ : Hid (∀ un, uniL d.1 d'.1 = un → ((joinL un d.1 d.2.2 d'.1 d'.2.2).length ≤ 4000 → joinR d d' = some (un, (un.length : Int), sortR (joinL un d.1 d.2.2 d'.1 d'.2.2))) ∧ (¬ (joinL un d.1 d.2.2 d'.1 d'.2.2).length ≤ 4000 → joinR d d' = none)) := Lib.hid (by
        rintro un rfl
        refine ⟨fun h => ?_, fun h => ?_⟩
        · unfold joinR; rw [if_pos ⟨⟨HT1.out, HT2.out⟩, h⟩]; rfl
        · unfold joinR; rw [if_neg (fun k => h k.2)])
      obtain ⟨un, hune⟩ : ∃ u, uniL d.1 d'.1 = u := ⟨_, rfl⟩
      have HJ := Lib.hid (HJ.out un hune)
      rw [hune] at hSu hun Hun Hag ⊢
      have P6 := P4.toExt hx6
      have Q6 := Q4.toExt hx6
      have R6 := R4.toExt hx6
      have xw6 := trans_ext xw4 hx6
      have hunx : un.length ≤ 10 := by omega
      have hra := HA.out.cnt
      have hrb := HB.out.cnt
      have HAl := Lib.hid HA.out.rl
      have HBl := Lib.hid HB.out.rl
      have hRs := R6.1
      have hw4s := R4.1
      clear hune lp p0 p1 p2 fp lq q0 q1 q2 fq P4 Q4 R4 HT1 HT2 HVa HVb Hba Hbb HA HB hFu
      obtain ⟨lp6, p60, p61, p62, fp6⟩ := box3 P6
      go_wp2_with fail
      go_loopw [7, 32] (fun v i wr => ∃ (k : Nat) (F : List Nat), i = .int .i64 k ∧ k ≤ d.2.2.length ∧ (joinL un d.1 (d.2.2.take k) d'.1 d'.2.2).length ≤ 4000 ∧ SV 48 1 sRow wr v (joinL un d.1 (d.2.2.take k) d'.1 d'.2.2) F ∧ Hid F.Nodup ∧ Hid (∀ x ∈ F, W6.heap.size ≤ x) ∧ ∃ y, wr = ext W6 y) (fun _ i _ => d.2.2.length - (intOf i).toNat)
      case atStart => exact ⟨0, [], rfl, by omega, by simp [joinL], by simpa [joinL] using SV.nil, Lib.hid (by simp), Lib.hid (by simp), refl_ext W6⟩
      case round =>
        obtain ⟨k, F, rfl, hk, hjl, hS, HN, HF, hy⟩ := hrel
        clear lp6 p60 p61 p62 fp6
        have hw := trans_ext xw6 hy
        by_cases hlt : k < d.2.2.length
        · obtain ⟨br, orr, A4, c4, rfl, hbr0, hcr0, hvr⟩ := r3.atV hlt
          have hbr : br < wr.heap.size := Nat.lt_of_lt_of_le hbr0 (size_of_ext hw)
          have hcr : wr.cell? ⟨br, orr + k, none⟩ = some (.slice A4 d.2.2[k].length c4) := by obtain ⟨y, e⟩ := hw; rw [e, cell_ext hbr0]; exact hcr0
          clear hcr0
          have lr := HAl.out _ (List.getElem_mem hlt)
          have Hst := Lib.hid (joinL_step (un := un) (va := d.1) (vb := d'.1) (rb := d'.2.2) hlt)
          have HMO := Lib.hid (joinL_mono (un := un) (va := d.1) (vb := d'.1) (ra := d.2.2) (rb := d'.2.2) (k := k + 1))
          obtain ⟨r, hr⟩ : ∃ r, d.2.2[k] = r := ⟨_, rfl⟩
          rw [hr] at hcr hvr lr Hst
          obtain ⟨jl, hjle⟩ : ∃ l, joinL un d.1 (d.2.2.take k) d'.1 d'.2.2 = l := ⟨_, rfl⟩
          rw [hjle] at Hst hjl hS
          have HLR := Lib.hid lr
          have HSU := Lib.hid (hSu.toExt hy)
          clear hr hjle lr
          obtain ⟨lp7, p70, p71, p72, fp7⟩ := box3 (P6.toExt hy)
          obtain ⟨lq7, q70, q71, q72, fq7⟩ := box3 (Q6.toExt hy)
          obtain ⟨wo, rfl⟩ : ∃ wo : World, wo = wr := ⟨_, rfl⟩
          have HS := Lib.hid hS
          clear hS
          go_wp2_with fail
          go_loopw [7, 40] (fun v j wi => ∃ (k2 : Nat) (F2 : List Nat), j = .int .i64 k2 ∧ k2 ≤ d'.2.2.length ∧ SV 48 1 sRow wi v (jl ++ jrow un d.1 r d'.1 (d'.2.2.take k2)) F2 ∧ Hid F2.Nodup ∧ Hid (∀ x ∈ F2, W6.heap.size ≤ x) ∧ ∃ y, wi = ext W6 y) (fun _ j _ => d'.2.2.length - (intOf j).toNat)
          case atStart => exact ⟨0, F, rfl, by omega, by simpa [jrow] using HS.out, HN, HF, hy⟩
          case round =>
            obtain ⟨k2, F2, rfl, hk2, hS2, HN2, HF2, hyi⟩ := hrel
            have hwi := trans_ext xw6 hyi
            clear lp7 p70 p71 p72 fp7 lq7 q70 q71 q72 fq7
            obtain ⟨lp8, p80, p81, p82, fp8⟩ := box3 (P6.toExt hyi)
            obtain ⟨lq8, q80, q81, q82, fq8⟩ := box3 (Q6.toExt hyi)
            have hjl2 := jrow_len (un := un) (va := d.1) (r := r) (vb := d'.1) (rb := d'.2.2) (k := k2)
            by_cases hlt2 : k2 < d'.2.2.length
            · obtain ⟨bs, os, A5, c5, rfl, hbs, hcs, hvs⟩ := (s3.toExt hwi).atV hlt2
              have ls := HBl.out _ (List.getElem_mem hlt2)
              have HJS := Lib.hid (jrow_step (un := un) (va := d.1) (r := r) (vb := d'.1) hlt2)
              obtain ⟨s, hs⟩ : ∃ s, d'.2.2[k2] = s := ⟨_, rfl⟩
              rw [hs] at hcs hvs ls HJS
              obtain ⟨jr, hjr⟩ : ∃ j, jrow un d.1 r d'.1 (d'.2.2.take k2) = j := ⟨_, rfl⟩
              rw [hjr] at HJS hS2 hjl2
              have HLS := Lib.hid ls
              obtain ⟨o, ho⟩ : ∃ o, glueO un d.1 r d'.1 s = o := ⟨_, rfl⟩
              have HG := Lib.hid ho
              have hos : o.isSome = agreeB d.1 r d'.1 s := by rw [← ho]; exact glueO_some (Hag.out r s)
              have hget := Lib.hid (fun h => glueO_get (Hag.out r s) h)
              obtain ⟨t, ht⟩ : ∃ t, agreeB d.1 r d'.1 s = t := ⟨_, rfl⟩
              rw [ht] at hos HJS
              have HOS := Lib.hid hos
              have HTT := Lib.hid ht
              have hruw := (hSu.toExt hyi).toView sI_v
              have hlk : (jl ++ jr).length + 1 ≤ 2000000000 := by rw [List.length_append]; omega
              have HFl2 := Lib.hid hS2.lt
              clear hs ho hos ht hjr ls
              cases t with
              | false =>
                have HST := Lib.hid (show jrow un d.1 r d'.1 (d'.2.2.take (k2 + 1)) = jr by rw [HJS.out, if_neg (by simp), List.append_nil])
                go_wp2_with (go_at_call 116; refine (glue_any (by omega) hruw (by omega) (r1.toExt hwi) HLR.out (hvr.toExt hwi) (by omega) (s1.toExt hwi) HLS.out hvs Hun.out).mono ?_; rw [HG.out]; rintro e w8 ⟨vg, Fg, rfl, hx8, hSg, hFg⟩; rw [HOS.out])
                exact ⟨⟨k2 + 1, F2, by go_num, by omega, by rw [HST.out]; exact hS2.toExt hx8, HN2, HF2, trans_ext hyi hx8⟩, by simp [intOf]; omega⟩
              | true =>
                have HST := Lib.hid (show jl ++ jrow un d.1 r d'.1 (d'.2.2.take (k2 + 1)) = jl ++ jr ++ [glueR un d.1 r d'.1 s] by rw [HJS.out, if_pos rfl, List.append_assoc])
                have HGS := Lib.hid (show o.getD [] = glueR un d.1 r d'.1 s by rw [← HG.out, hget.out HTT.out]; rfl)
                obtain ⟨g, hg⟩ : ∃ g, glueR un d.1 r d'.1 s = g := ⟨_, rfl⟩
                rw [hg] at HST HGS
                clear hg
                go_wp2_with (first
                  | (go_at_call 116; refine (glue_any (by omega) hruw (by omega) (r1.toExt hwi) HLR.out (hvr.toExt hwi) (by omega) (s1.toExt hwi) HLS.out hvs Hun.out).mono ?_; rw [HG.out]; rintro e w8 ⟨vg, Fg, rfl, hx8, hSg, hFg⟩; rw [HOS.out]; rw [HGS.out] at hSg; obtain ⟨A9, c9, rfl, _, _⟩ := hSg.form; have hN3 := nodup_more HN2.out hSg.nodup HFl2.out hFg; have hz8 := size_of_ext hx8)
                  | (at_builtin; refine wpList_appN (E := sRow) (d := g) (G := Fg) rfl _ _ _ rfl tIIr rfl rfl rfl (by simp) ⟨_, rfl, hSg⟩ rfl (by simp [Value.oneCell']) (hS2.toExt hx8) hN3 hlk (by omega) ?_; intro v' w' F' hS' hC' hN' hF'))
                refine ⟨⟨k2 + 1, F', by go_num, by omega, by rw [HST.out]; exact hS', Lib.hid hN', Lib.hid (fun b hb => ?_), hC'.isExt (trans_ext hyi hx8) HF2.out⟩, by simp [intOf]; omega⟩
                have hzw := size_of_ext hyi
                rcases hF' b hb with h | h | h
                · exact HF2.out b h
                · have := hFg b h; omega
                · omega
            · have HST := Lib.hid (show joinL un d.1 (d.2.2.take (k + 1)) d'.1 d'.2.2 = jl ++ jrow un d.1 r d'.1 d'.2.2 by rw [Hst.out])
              rw [show d'.2.2.take k2 = d'.2.2 from List.take_of_length_le (by omega)] at hS2
              rw [← HST.out] at hS2
              obtain ⟨A7, c7, rfl, _, _⟩ := hS2.form
              by_cases h4 : (joinL un d.1 (d.2.2.take (k + 1)) d'.1 d'.2.2).length ≤ 4000
              · obtain ⟨jn, hjn⟩ : ∃ l, joinL un d.1 (d.2.2.take (k + 1)) d'.1 d'.2.2 = l := ⟨_, rfl⟩
                have HJN := Lib.hid hjn
                rw [hjn] at hS2 h4 ⊢
                clear hjn
                go_wp2
                exact ⟨⟨k + 1, F2, by go_num, by omega, by rw [HJN.out]; exact h4, by rw [HJN.out]; exact hS2, HN2, HF2, hyi⟩, by simp [intOf]; omega⟩
              · have HZ := Lib.hid (HJ.out.2 (fun h => h4 (Nat.le_trans HMO.out h)))
                obtain ⟨jn, hjn⟩ : ∃ l, joinL un d.1 (d.2.2.take (k + 1)) d'.1 d'.2.2 = l := ⟨_, rfl⟩
                rw [hjn] at hS2 h4 ⊢
                obtain ⟨lr8, r80, r81, r82, fr8⟩ := box3 (R6.toExt hyi)
                have h5 : 4000 < jn.length := by omega
                clear hjn
                go_wp2
                refine bodyPost_ret (v := .tuple #[.agg #[.slice none 0 0, .int .i64 0, .slice none 0 0], .bool false]) (by simp [results, Try.results50, go_sem, *]) rfl (vrOut_none HZ.out rfl (by refine x'z ?_; repeat (with_reducible (first | exact x'a _ _ | exact x'b _ | exact x'c (by assumption) | refine x'd ?_ (by assumption) | refine x'e ?_ _ | refine x'f ?_ _ | refine x'g ?_ | refine x'h ?_ ?_ _ | refine x'i ?_ _ | refine x'j ?_ | refine x'k ?_ _ | refine x'l ?_ _ _ | refine x'm ?_ | assumption | (refine x'n ?_; omega) | omega))))
        · obtain rfl : k = d.2.2.length := by omega
          rw [List.take_of_length_le (Nat.le_refl _)] at hS hjl
          have HZ := Lib.hid (HJ.out.1 hjl)
          have HLE := Lib.hid (show ∀ x ∈ joinL un d.1 d.2.2 d'.1 d'.2.2, x.length ≤ 1000000000 from fun x hx => by
            unfold joinL at hx
            simp only [List.mem_flatMap, List.mem_map] at hx
            obtain ⟨_, _, _, _, rfl⟩ := hx
            simp [glueR]
            omega)
          obtain ⟨jn, hjn⟩ : ∃ l, joinL un d.1 d.2.2 d'.1 d'.2.2 = l := ⟨_, rfl⟩
          rw [hjn] at hS hjl HZ HLE
          obtain ⟨A7, c7, rfl, hc7, _, rv7⟩ := hS.view (V := vSl 1 vI) (sSl_v sI_v)
          obtain ⟨sr, hsr⟩ : ∃ s, sortR jn = s := ⟨_, rfl⟩
          have HSR := Lib.hid hsr
          rw [hsr] at HZ
          have hjb : jn.length ≤ 1000000000 := by omega
          clear hjn hsr
          go_wp2_with (go_at_call 126; refine (sorted_any jn.length A7 c7 jn _ (Nat.le_refl _) hjb hc7 HLE.out rv7).mono ?_; rintro e w8 ⟨v8, F8, rfl, hx8, hS8, hN8, hF8⟩; rw [HSR.out] at hS8; obtain ⟨A8, c8, rfl, _, _⟩ := hS8.form; obtain ⟨lr8, r80, r81, r82, fr8⟩ := box3 (R6.toExt (trans_ext hy hx8)))
          have hz6 := size_of_ext hy
          have hz4 := size_of_ext hx6
          have hzw := size_of_ext xw4
          have hSu8 := hSu.toExt (trans_ext hy hx8)
          have hltu := hSu.lt
          refine bodyPost_ret (v := .tuple #[.agg #[.slice Au un.length cu, .int .i64 un.length, .slice A8 sr.length c8], .bool true]) (by simp [results, Try.results50, go_sem, *]) rfl ⟨_, _, _, Fu ++ F8, by rw [HZ.out]; rfl, (by refine x'z ?_; repeat (with_reducible (first | exact x'a _ _ | exact x'b _ | exact x'c (by assumption) | refine x'd ?_ (by assumption) | refine x'e ?_ _ | refine x'f ?_ _ | refine x'g ?_ | refine x'h ?_ ?_ _ | refine x'i ?_ _ | refine x'j ?_ | refine x'k ?_ _ | refine x'l ?_ _ _ | refine x'm ?_ | assumption | (refine x'n ?_; omega) | omega))), ?_, ?_, fun b hb => ?_⟩
          · rw [HZ.out]
            refine sVR_mk (hSu8.chg (G := [w.heap.size + 1 + 1]) (by repeat (with_reducible (first | exact Chg.refl _ _ | refine Chg.trans0 ?_ (by assumption) | refine Chg.extS ?_ _ | refine Chg.alloc ?_ _ | refine Chg.drew ?_ | refine Chg.setCell ?_ (.inl (by simp)) _))) ?_) (OD.chg (E := sII) (G := [w.heap.size + 1 + 1]) ⟨_, rfl, hS8⟩ (by repeat (with_reducible (first | exact Chg.refl _ _ | refine Chg.trans0 ?_ (by assumption) | refine Chg.extS ?_ _ | refine Chg.alloc ?_ _ | refine Chg.drew ?_ | refine Chg.setCell ?_ (.inl (by simp)) _))) ?_)
            · intro b hb h
              have := HFu.out b hb
              rw [List.mem_singleton.1 h] at this
              omega
            · intro b hb h
              have := hF8 b hb
              rw [List.mem_singleton.1 h] at this
              omega
          · exact nodup_more (n := W6.heap.size) hSu.nodup hN8 hltu (fun b hb => by have := hF8 b hb; omega)
          · rcases List.mem_append.1 hb with h | h
            · have := HFu.out b h; omega
            · have := hF8 b h; omega
end Go.Proofs.Ytfigcfajkilhiaa

/- All bindings of a query: the program's way; a query's answer. -/
namespace Go.Proofs.Ytfigcfajkilhiaa
open Go.RowKit

theorem foldB_step {d : Dbd} {ats : List At} {k : Nat} (h : k < ats.length) : foldB d (ats.take (k + 1)) = stepB d (foldB d (ats.take k)) ats[k] := by
  rw [List.take_succ_eq_append_getElem h, foldB, foldB, List.foldl_append]
  rfl
theorem joinL_len {un va vb : List Int} {ra rb : List (List Int)} : (joinL un va ra vb rb).length ≤ rb.length * ra.length := by
  unfold joinL
  exact flat_bd (fun r => by rw [List.length_map]; exact List.length_filter_le _ _) ra
theorem foldB_len {d : Dbd} {ats : List At} : (foldB d ats).2.length ≤ 16 ^ ats.length := by
  induction ats using snoc_ind with
  | h0 => simp [foldB]
  | h1 l a ih =>
    have e : foldB d (l ++ [a]) = stepB d (foldB d l) a := by simp [foldB]
    rw [e, List.length_append, List.length_singleton, Nat.pow_succ, Nat.mul_comm]
    exact Nat.le_trans joinL_len (Nat.mul_le_mul atomBd_cnt ih)
theorem foldB_fit {d : Dbd} {q : Qd} (h : QOk d q) (k : Nat) : (foldB d (q.2.1.take k)).1.length ≤ 5 ∧ (∀ r ∈ (foldB d (q.2.1.take k)).2, r.length = (foldB d (q.2.1.take k)).1.length) ∧ (foldB d (q.2.1.take k)).2.length ≤ 65536 := by
  have h5 := h.n5
  have h4 := h.at4
  obtain ⟨h1, h2, h3⟩ := foldB_iff (d := d) (ats := q.2.1.take k) fun a ha => ⟨h.fit a (List.mem_of_mem_take ha), fun v hv => by have := h.vars a (List.mem_of_mem_take ha) v hv; omega⟩
  refine ⟨asc_len5 h1 fun v hv => ?_, fun r hr => ?_, ?_⟩
  · obtain ⟨a, ha, hv⟩ := (h2 v).1 hv
    have := h.vars a (List.mem_of_mem_take ha) v hv
    omega
  · obtain ⟨g, rfl, _⟩ := (h3 r).1 hr
    simp
  · refine Nat.le_trans foldB_len (Nat.le_trans (Nat.pow_le_pow_right (by omega) (show _ ≤ 4 from ?_)) (by decide))
    rw [List.length_take]
    omega
/-- what is known where sorted rows were laid into a fresh box -/
def CutU (n : Int) (l : List (List Int)) (W : World) (va : Value) (wx : World) : Prop := ∃ b A c F, va = .pointer (some ⟨b, 0, none⟩) ∧ BoxAt wx b #[.int .i64 n, .slice A l.length c] ∧ sII wx [.slice A l.length c] l F ∧ F.Nodup ∧ (∀ x ∈ F, W.heap.size ≤ x) ∧ W.heap.size ≤ b ∧ ∃ y, wx = ext W y
set_option maxRecDepth 100000 in
set_option maxHeartbeats 16000000 in
theorem bindings_any {A B C : Option Addr} {c e g : Nat} {d : Dbd} {q : Qd} {w : World} (hd : WDb d) (h1 : RV 3 vTb w A d) (hb : BQ q) (h2 : vQ w [.int .i64 q.1, .slice B q.2.1.length e, .slice C q.2.2.length g] q) :
    Calls Try.prog 106 #[.agg #[.slice A d.length c], .agg #[.int .i64 q.1, .slice B q.2.1.length e, .slice C q.2.2.length g]] w (RelOut (bindR d q) w) := by
  have h3 := (vAts_get (vQ_get h2).1).2
  have HLB : Hid (∀ x : At, x ∈ q.2.1 → x.2.length ≤ 1000000000) := Lib.hid (fun x hx => by have := (hb.2.1.each x hx).2; omega)
  have HD := Lib.hid hd
  have HB := Lib.hid hb
  have HV := Lib.hid h2
  obtain ⟨t1, ht1⟩ : ∃ t, iqfB d q = t := ⟨_, rfl⟩
  have HT1 := Lib.hid ht1
  have HQ := Lib.hid (fun (h : t1 = true) => qok (show iqfB d q = true by rw [ht1, h]))
  clear hd hb h2 ht1
  go_enter Try.func106, Try.ntmps106
  go_upto_region 1 with fail
  refine wp_name ?_
  intro W hW
  have xW : ∃ y, W = ext w y := by rw [hW.out]; exact (by refine x'z ?_; repeat (with_reducible (first | exact x'a _ _ | exact x'b _ | exact x'c (by assumption) | refine x'd ?_ (by assumption) | refine x'e ?_ _ | refine x'f ?_ _ | refine x'g ?_ | refine x'h ?_ ?_ _ | refine x'i ?_ _ | refine x'j ?_ | refine x'k ?_ _ | refine x'l ?_ _ _ | refine x'm ?_ | assumption | (refine x'n ?_; omega) | omega)))
  have PW : BoxAt W w.heap.size #[.slice A d.length c] := by rw [hW.out]; exact (by repeat (with_reducible (first | assumption | exact BoxAt.new _ _ _ | apply BoxAt.set10 | apply BoxAt.set2 | refine BoxAt.set2' ?_ (by omega) | apply BoxAt.setP0 | apply BoxAt.setP1 | refine BoxAt.setO ?_ (by omega) | refine BoxAt.alloc ?_ _ | refine BoxAt.drew ?_ | refine BoxAt.toExt ?_ (by assumption))))
  have QW : BoxAt W (w.heap.size + 1) #[.int .i64 q.1, .slice B q.2.1.length e, .slice C q.2.2.length g] := by
    rw [hW.out]
    refine ⟨?_, fun j => ?_, fun j => ?_⟩ <;> go_simp
  have RW : BoxAt W (w.heap.size + 1 + 1) #[.int .i64 0, .slice none 0 0] := by rw [hW.out]; refine ⟨?_, fun j => ?_, fun j => ?_⟩ <;> go_simp
  obtain ⟨lp, p0, fp⟩ := bx1 PW
  obtain ⟨lq, q0, q1, q2, fq⟩ := box3 QW
  clear hW
  cases t1 with
  | false =>
    have HZ := Lib.hid (bind_no HT1.out)
    go_wp2_with (go_at_call 74; refine (IsQueryFor_any HD.out (h1.toExt xW) HB.out (VD.toExt HV.out xW)).mono ?_; rintro e w1 ⟨rfl, hx1⟩; rw [HT1.out]; obtain ⟨lr1, r10, r11, fr1⟩ := bx2 (RW.toExt hx1))
    refine bodyPost_ret (v := .tuple #[.agg #[.int .i64 0, .slice none 0 0], .bool false]) (by simp [results, Try.results106, go_sem, *]) rfl (relOut_none HZ.out rfl (by refine x'z ?_; repeat (with_reducible (first | exact x'a _ _ | exact x'b _ | exact x'c (by assumption) | refine x'd ?_ (by assumption) | refine x'e ?_ _ | refine x'f ?_ _ | refine x'g ?_ | refine x'h ?_ ?_ _ | refine x'i ?_ _ | refine x'j ?_ | refine x'k ?_ _ | refine x'l ?_ _ _ | refine x'm ?_ | assumption | (refine x'n ?_; omega) | omega))))
  | true =>
    have hqk := HQ.out rfl
    have hn1 := hqk.n1
    have hn5 := hqk.n5
    have hat4 := hqk.at4
    have HFF := Lib.hid (foldB_fit hqk)
    have HFA := Lib.hid (foldB_all hqk).2
    have HBI := Lib.hid (bind_impl HT1.out)
    have HQK := Lib.hid hqk
    clear hqk
    go_upto_region 3 with (go_at_call 74; refine (IsQueryFor_any HD.out (h1.toExt xW) HB.out (VD.toExt HV.out xW)).mono ?_; rintro e w1 ⟨rfl, hx1⟩; rw [HT1.out])
    have P1 := PW.toExt hx1
    have Q1 := QW.toExt hx1
    have R1 := RW.toExt hx1
    have xw1 := trans_ext xW hx1
    have hR0 := SV.lit1 (te := 48) (E := sRow) (d := []) (w := w1.alloc (.cells #[] 3)) (G := [w1.heap.size]) ⟨_, rfl, SV.empty (α := Int) (te := 3) (size := 1) (E := sI) w1⟩
    have hV0 := SV.empty (α := Int) (te := 3) (size := 1) (E := sI) ((w1.alloc (.cells #[] 3)).alloc (.cells #[.slice (some ⟨w1.heap.size, 0, none⟩) 0 0] 48))
    have hz1 := size_of_ext xw1
    have hR1 := R1.1
    clear lp p0 fp lq q0 q1 q2 fq PW QW RW
    go_upto_region 5 with fail
    refine wp_name ?_
    intro W5 hW5
    have x15 : ∃ y, W5 = ext w1 y := by rw [hW5.out]; exact (by refine x'z ?_; repeat (with_reducible (first | exact x'a _ _ | exact x'b _ | exact x'c (by assumption) | refine x'd ?_ (by assumption) | refine x'e ?_ _ | refine x'f ?_ _ | refine x'g ?_ | refine x'h ?_ ?_ _ | refine x'i ?_ _ | refine x'j ?_ | refine x'k ?_ _ | refine x'l ?_ _ _ | refine x'm ?_ | assumption | (refine x'n ?_; omega) | omega)))
    have hR5 : SV 48 1 sRow W5 (.slice (some ⟨w1.heap.size + 1, 0, none⟩) 1 1) [[]] [w1.heap.size + 1, w1.heap.size] := by rw [hW5.out]; simpa using hR0.toExt (alloc_ext _ _)
    have hV5 : SV 3 1 sI W5 (.slice (some ⟨w1.heap.size + 1 + 1, 0, none⟩) 0 0) [] [w1.heap.size + 1 + 1] := by rw [hW5.out]; simpa using hV0
    clear hW5 hR0 hV0
    obtain ⟨lq1, q10, q11, q12, fq1⟩ := box3 (Q1.toExt x15)
    go_wp2_with fail
    clear lq1 q10 q11 q12 fq1
    go_loopw [6, 7, 31] (fun u v i wr => ∃ (k : Nat) (F G : List Nat), i = .int .i64 k ∧ k ≤ q.2.1.length ∧ SV 48 1 sRow wr u (foldB d (q.2.1.take k)).2 F ∧ Hid F.Nodup ∧ Hid (∀ b ∈ F, w1.heap.size ≤ b) ∧ SV 3 1 sI wr v (foldB d (q.2.1.take k)).1 G ∧ ∃ y, wr = ext w1 y) (fun _ _ i _ => q.2.1.length - (intOf i).toNat)
    case atStart => exact ⟨0, [w1.heap.size + 1, w1.heap.size], [w1.heap.size + 1 + 1], rfl, by omega, hR5, Lib.hid (by simp), Lib.hid (by simp), hV5, x15⟩
    case round =>
      as_aux_lemma =>
      obtain ⟨k, F, G, rfl, hk, hS, HN, HF, hT, hy⟩ := hrel
      have hw := trans_ext xw1 hy
      have P2 := P1.toExt hy
      have Q2 := Q1.toExt hy
      have R2 := R1.toExt hy
      have hzy := size_of_ext hy
      obtain ⟨lp2, p20, fp2⟩ := bx1 P2
      by_cases hlt : k < q.2.1.length
      · obtain ⟨ba, oa, Av, cv, rfl, hba, hca, hca1, hvv⟩ := (h3.toExt hw).atA hlt
        have hfs := foldB_step (d := d) hlt
        obtain ⟨f1, f2, f3⟩ := HFF.out k
        obtain ⟨_, _, g3⟩ := HFF.out (k + 1)
        have hxb := HLB.out _ (List.getElem_mem hlt)
        have hok := atomBd_ok (d := d) (a := q.2.1[k])
        obtain ⟨⟨s, xs⟩, hx⟩ : ∃ x, q.2.1[k] = x := ⟨_, rfl⟩
        rw [hx] at hca hca1 hvv hfs hxb hok
        simp only at hca hca1 hvv hxb
        obtain ⟨⟨va, ra⟩, hs⟩ : ∃ s, foldB d (q.2.1.take k) = s := ⟨_, rfl⟩
        rw [hs] at hS hT hfs f1 f2 f3
        simp only at hS hT f1 f2 f3
        obtain ⟨D, hD⟩ : ∃ D, atomVR d (s, xs) = D := ⟨_, rfl⟩
        have hfs2 : foldB d (q.2.1.take (k + 1)) = (uniL va D.1, joinL (uniL va D.1) va ra D.1 D.2.2) := by rw [← hD]; exact hfs
        rw [hD] at hok
        have HDD := Lib.hid hD
        have HFS := Lib.hid hfs2
        have HF2 := Lib.hid f2
        have hdl := hok.len
        have hdc := hok.cnt
        have HBl := Lib.hid hok.rl
        have HOK := Lib.hid hok
        obtain ⟨Ar, cr, rfl, _⟩ := hS.form
        obtain ⟨At', ct, rfl, _⟩ := hT.form
        have HSr := Lib.hid hS
        have HTr := Lib.hid hT
        have hrr : RII wr Ar ra := hS.toView (sSl_v sI_v)
        have hvr := hT.toView sI_v
        have hjl9 : (joinL (uniL va D.1) va ra D.1 D.2.2).length ≤ 65536 := by rw [hfs2] at g3; exact g3
        clear hx hs hD hfs hfs2 f2 hok hS hT g3
        obtain ⟨wo, rfl⟩ : ∃ wo : World, wo = wr := ⟨_, rfl⟩
        go_upto_region 9 with (go_at_call 67; refine (AtomRelation_x HD.out (h1.toExt (trans_ext hw (by refine x'z ?_; repeat (with_reducible (first | exact x'a _ _ | exact x'b _ | exact x'c (by assumption) | refine x'd ?_ (by assumption) | refine x'e ?_ _ | refine x'f ?_ _ | refine x'g ?_ | refine x'h ?_ ?_ _ | refine x'i ?_ _ | refine x'j ?_ | refine x'k ?_ _ | refine x'l ?_ _ _ | refine x'm ?_ | assumption | (refine x'n ?_; omega) | omega))))) hxb (hvv.toExt (by refine x'z ?_; repeat (with_reducible (first | exact x'a _ _ | exact x'b _ | exact x'c (by assumption) | refine x'd ?_ (by assumption) | refine x'e ?_ _ | refine x'f ?_ _ | refine x'g ?_ | refine x'h ?_ ?_ _ | refine x'i ?_ _ | refine x'j ?_ | refine x'k ?_ _ | refine x'l ?_ _ _ | refine x'm ?_ | assumption | (refine x'n ?_; omega) | omega))))).mono ?_; rw [HDD.out]; rintro e w3 ⟨v0, v1, v2, F3, rfl, hx3, hS3, hN3, hF3⟩; obtain ⟨A3, a3, B3, b3, rfl, rfl, rfl⟩ := sVR_form hS3)
        have xo3 : ∃ y, w3 = ext wo y := (by refine x'z ?_; repeat (with_reducible (first | exact x'a _ _ | exact x'b _ | exact x'c (by assumption) | refine x'd ?_ (by assumption) | refine x'e ?_ _ | refine x'f ?_ _ | refine x'g ?_ | refine x'h ?_ ?_ _ | refine x'i ?_ _ | refine x'j ?_ | refine x'k ?_ _ | refine x'l ?_ _ _ | refine x'm ?_ | assumption | (refine x'n ?_; omega) | omega)))
        refine wp_name ?_
        intro w4 hw4
        have x34 : ∃ y, w4 = ext w3 y := by rw [hw4.out]; exact (by refine x'z ?_; repeat (with_reducible (first | exact x'a _ _ | exact x'b _ | exact x'c (by assumption) | refine x'd ?_ (by assumption) | refine x'e ?_ _ | refine x'f ?_ _ | refine x'g ?_ | refine x'h ?_ ?_ _ | refine x'i ?_ _ | refine x'j ?_ | refine x'k ?_ _ | refine x'l ?_ _ _ | refine x'm ?_ | assumption | (refine x'n ?_; omega) | omega)))
        have X4 : BoxAt w4 w3.heap.size #[.slice A3 D.1.length a3, .int .i64 D.2.1, .slice B3 D.2.2.length b3] := by rw [hw4.out]; exact (by repeat (with_reducible (first | assumption | exact BoxAt.new _ _ _ | apply BoxAt.set3 | refine BoxAt.set3' ?_ (by omega) | apply BoxAt.set30 | apply BoxAt.set31 | apply BoxAt.set32 | apply BoxAt.set2 | refine BoxAt.set2' ?_ (by omega) | apply BoxAt.setP0 | apply BoxAt.setP1 | refine BoxAt.setO ?_ (by omega) | refine BoxAt.alloc ?_ _ | refine BoxAt.drew ?_ | refine BoxAt.toExt ?_ (by assumption))))
        obtain ⟨e1, e2, _⟩ := vVR_get (sVR_v _ _ _ hS3)
        have s3 := (vII_get (vRel_get e2).2).2
        have xo4 := trans_ext xo3 x34
        obtain ⟨lx4, x40, x41, x42, fx4⟩ := box3 X4
        obtain ⟨bX, qX⟩ : ∃ b, w3.heap.size = b := ⟨_, rfl⟩
        rw [qX] at X4 lx4 x40 x41 x42 fx4 ⊢
        clear hw4 qX e2 hS3 hN3 hF3 lp2 p20 fp2 hca hca1 hba hvv hxb hx3
        go_wp2_with (go_at_call 115; refine (unite_v (by omega) (hvr.toExt xo4) (by omega) (e1.toExt x34)).mono ?_; rintro e W6 ⟨vu, Fu, rfl, hx6, hSu, hFu⟩; obtain ⟨Au, cu, rfl, _⟩ := hSu.form)
        have hun := uniL_length D.1 va
        have Hun := Lib.hid (fun v (hv : v ∈ uniL va D.1) => mem_uniL.1 hv)
        have Hag := Lib.hid (fun r s => okG_agree (un := uniL va D.1) (va := va) (r := r) (vb := D.1) (s := s) (fun v => mem_uniL))
        obtain ⟨un, hune⟩ : ∃ u, uniL va D.1 = u := ⟨_, rfl⟩
        rw [hune] at hSu hun Hun Hag HFS hjl9 ⊢
        have x46 := hx6
        have xo6 := trans_ext xo4 hx6
        have X6 := X4.toExt hx6
        have e16 := e1.toExt (trans_ext x34 hx6)
        have s36 := s3.toExt (trans_ext x34 hx6)
        have hvr6 := hvr.toExt xo6
        have hzo6 := size_of_ext xo6
        have hy6 := trans_ext hy xo6
        have hunx : un.length ≤ 10 := by omega
        have HFu := Lib.hid hFu
        have HJM := Lib.hid (fun k2 => Nat.le_trans (joinL_mono (un := un) (va := va) (vb := D.1) (ra := ra) (rb := D.2.2) (k := k2)) hjl9)
        clear hune lx4 x40 x41 x42 fx4 hFu hx6
        go_wp2_with fail
        go_loopw [11, 44] (fun v i wr => ∃ (k2 : Nat) (F : List Nat), i = .int .i64 k2 ∧ k2 ≤ ra.length ∧ SV 48 1 sRow wr v (joinL un va (ra.take k2) D.1 D.2.2) F ∧ Hid F.Nodup ∧ Hid (∀ x ∈ F, W6.heap.size ≤ x) ∧ ∃ y, wr = ext W6 y) (fun _ i _ => ra.length - (intOf i).toNat)
        case atStart => exact ⟨0, [], rfl, by omega, by simpa [joinL] using SV.nil, Lib.hid (by simp), Lib.hid (by simp), refl_ext W6⟩
        case round =>
          as_aux_lemma =>
          obtain ⟨k2, F2, rfl, hk2, hS2, HN2, HF2', hy2⟩ := hrel
          obtain ⟨lx7, x70, x71, x72, fx7⟩ := box3 (X6.toExt hy2)
          by_cases hlt2 : k2 < ra.length
          · obtain ⟨br, orr, A4, c4, rfl, hbr0, hcr0, hvr4⟩ := hrr.atV hlt2
            have hbr := ltW (trans_ext xo6 hy2) hbr0
            have hcr := cellW (trans_ext xo6 hy2) hbr0 hcr0
            clear hcr0
            have lr := HF2.out _ (List.getElem_mem hlt2)
            have Hst := Lib.hid (joinL_step (un := un) (va := va) (vb := D.1) (rb := D.2.2) hlt2)
            have hjl := HJM.out k2
            obtain ⟨r, hr⟩ : ∃ r, ra[k2] = r := ⟨_, rfl⟩
            rw [hr] at hcr hvr4 lr Hst
            obtain ⟨jl, hjle⟩ : ∃ l, joinL un va (ra.take k2) D.1 D.2.2 = l := ⟨_, rfl⟩
            rw [hjle] at Hst hjl hS2
            have HLR := Lib.hid lr
            have HS := Lib.hid hS2
            clear hr hjle lr hS2
            go_wp2_with fail
            go_loopw [11, 52] (fun v j wi => ∃ (k3 : Nat) (F3 : List Nat), j = .int .i64 k3 ∧ k3 ≤ D.2.2.length ∧ SV 48 1 sRow wi v (jl ++ jrow un va r D.1 (D.2.2.take k3)) F3 ∧ Hid F3.Nodup ∧ Hid (∀ x ∈ F3, W6.heap.size ≤ x) ∧ ∃ y, wi = ext W6 y) (fun _ j _ => D.2.2.length - (intOf j).toNat)
            case atStart => exact ⟨0, F2, rfl, by omega, by simpa [jrow] using HS.out, HN2, HF2', hy2⟩
            case round =>
              as_aux_lemma =>
              obtain ⟨k3, F3, rfl, hk3, hS3, HN3, HF3, hyi⟩ := hrel
              clear lx7 x70 x71 x72 fx7
              obtain ⟨lx8, x80, x81, x82, fx8⟩ := box3 (X6.toExt hyi)
              have hjl2 := jrow_len (un := un) (va := va) (r := r) (vb := D.1) (rb := D.2.2) (k := k3)
              by_cases hlt3 : k3 < D.2.2.length
              · obtain ⟨bs, os, A5, c5, rfl, hbs, hcs, hvs⟩ := (s36.toExt hyi).atV hlt3
                have ls := HBl.out _ (List.getElem_mem hlt3)
                have HJS := Lib.hid (jrow_step (un := un) (va := va) (r := r) (vb := D.1) hlt3)
                obtain ⟨s', hs⟩ : ∃ s, D.2.2[k3] = s := ⟨_, rfl⟩
                rw [hs] at hcs hvs ls HJS
                obtain ⟨jr, hjr⟩ : ∃ j, jrow un va r D.1 (D.2.2.take k3) = j := ⟨_, rfl⟩
                rw [hjr] at HJS hS3 hjl2
                have HLS := Lib.hid ls
                obtain ⟨o, ho⟩ : ∃ o, glueO un va r D.1 s' = o := ⟨_, rfl⟩
                have HG := Lib.hid ho
                have hos : o.isSome = agreeB va r D.1 s' := by rw [← ho]; exact glueO_some (Hag.out r s')
                have hget := Lib.hid (fun h => glueO_get (Hag.out r s') h)
                obtain ⟨t, ht⟩ : ∃ t, agreeB va r D.1 s' = t := ⟨_, rfl⟩
                rw [ht] at hos HJS
                have HOS := Lib.hid hos
                have HTT := Lib.hid ht
                have hruw := (hSu.toExt hyi).toView sI_v
                have hvrw := hvr6.toExt hyi
                have e1w := e16.toExt hyi
                have hvr4w := hvr4.toExt (trans_ext xo6 hyi)
                have hlk : (jl ++ jr).length + 1 ≤ 2000000000 := by rw [List.length_append]; omega
                have HFl2 := Lib.hid hS3.lt
                clear hs ho hos ht hjr ls
                cases t with
                | false =>
                  have HST := Lib.hid (show jrow un va r D.1 (D.2.2.take (k3 + 1)) = jr by rw [HJS.out, if_neg (by simp), List.append_nil])
                  go_wp2_with (go_at_call 116; refine (glue_any (by omega) hruw (by omega) hvrw HLR.out hvr4w (by omega) e1w HLS.out hvs Hun.out).mono ?_; rw [HG.out]; rintro e w8 ⟨vg, Fg, rfl, hx8, hSg, hFg⟩; rw [HOS.out])
                  exact ⟨⟨k3 + 1, F3, by go_num, by omega, by rw [HST.out]; exact hS3.toExt hx8, HN3, HF3, trans_ext hyi hx8⟩, by simp [intOf]; omega⟩
                | true =>
                  have HST := Lib.hid (show jl ++ jrow un va r D.1 (D.2.2.take (k3 + 1)) = jl ++ jr ++ [glueR un va r D.1 s'] by rw [HJS.out, if_pos rfl, List.append_assoc])
                  have HGS := Lib.hid (show o.getD [] = glueR un va r D.1 s' by rw [← HG.out, hget.out HTT.out]; rfl)
                  obtain ⟨g, hg⟩ : ∃ g, glueR un va r D.1 s' = g := ⟨_, rfl⟩
                  rw [hg] at HST HGS
                  clear hg
                  go_wp2_with (first
                    | (go_at_call 116; refine (glue_any (by omega) hruw (by omega) hvrw HLR.out hvr4w (by omega) e1w HLS.out hvs Hun.out).mono ?_; rw [HG.out]; rintro e w8 ⟨vg, Fg, rfl, hx8, hSg, hFg⟩; rw [HOS.out]; rw [HGS.out] at hSg; obtain ⟨A9, c9, rfl, _, _⟩ := hSg.form; have hN3 := nodup_more HN3.out hSg.nodup HFl2.out hFg; have hz8 := size_of_ext hx8)
                    | (at_builtin; refine wpList_appN (E := sRow) (d := g) (G := Fg) rfl _ _ _ rfl tIIr rfl rfl rfl (by simp) ⟨_, rfl, hSg⟩ rfl (by simp [Value.oneCell']) (hS3.toExt hx8) hN3 hlk (by omega) ?_; intro v' w' F' hS' hC' hN' hF'))
                  refine ⟨⟨k3 + 1, F', by go_num, by omega, by rw [HST.out]; exact hS', Lib.hid hN', Lib.hid (fun b hb => ?_), hC'.isExt (trans_ext hyi hx8) HF3.out⟩, by simp [intOf]; omega⟩
                  have hzw := size_of_ext hyi
                  rcases hF' b hb with h | h | h
                  · exact HF3.out b h
                  · have := hFg b h; omega
                  · omega
              · have HST := Lib.hid (show joinL un va (ra.take (k2 + 1)) D.1 D.2.2 = jl ++ jrow un va r D.1 D.2.2 by rw [Hst.out])
                rw [show D.2.2.take k3 = D.2.2 from List.take_of_length_le (by omega)] at hS3
                rw [← HST.out] at hS3
                go_wp2
                exact ⟨⟨k2 + 1, F3, by go_num, by omega, hS3, HN3, HF3, hyi⟩, by simp [intOf]; omega⟩
          · obtain rfl : k2 = ra.length := by omega
            rw [List.take_of_length_le (Nat.le_refl _)] at hS2
            have hSu2 := hSu.toExt hy2
            go_wp2
            exact ⟨⟨k + 1, F2, Fu, by go_num, by omega, by rw [HFS.out]; exact hS2, HN2, Lib.hid (fun b hb => by have := HF2'.out b hb; omega), by rw [HFS.out]; exact hSu2, trans_ext hy6 hy2⟩, by simp [intOf]; omega⟩
      · obtain rfl : k = q.2.1.length := by omega
        rw [List.take_of_length_le (Nat.le_refl _)] at hS
        have hfl := (HFF.out q.2.1.length).2.2
        have hfe := (HFF.out q.2.1.length).2.1
        have hf1 := (HFF.out q.2.1.length).1
        rw [List.take_of_length_le (Nat.le_refl _)] at hfl hfe hf1
        have HLE := Lib.hid (fun x (hx : x ∈ (foldB d q.2.1).2) => show x.length ≤ 1000000000 by rw [hfe x hx]; omega)
        have HFA2 := Lib.hid HFA.out
        obtain ⟨jn, hjn⟩ : ∃ l, (foldB d q.2.1).2 = l := ⟨_, rfl⟩
        rw [hjn] at hS hfl HLE HFA2
        obtain ⟨A7, c7, rfl, hc7, _, rv7⟩ := hS.view (V := vSl 1 vI) (sSl_v sI_v)
        have hjb : jn.length ≤ 1000000000 := by omega
        obtain ⟨L, hL⟩ : ∃ L, allB d q = L := ⟨_, rfl⟩
        rw [hL] at HFA2
        have HLN := Lib.hid (show L.length ≤ jn.length by rw [← HFA2.out]; exact sortR_length _)
        have HAR := Lib.hid (fun x (hx : x ∈ L) => show x.length ≤ 1000000000 by have := (allB_row HQK.out (hL.symm ▸ hx)).1; omega)
        have HBI2 := Lib.hid (show bindR d q = if rowsB q.1 L = true then some (q.1, L) else none by rw [HBI.out, hL])
        have hLb : L.length ≤ 1000000000 := by have := HLN.out; omega
        obtain ⟨lq2, q20, q21, q22, fq2⟩ := box3 Q2
        clear hfe hf1 hjn hL
        go_upto_region 25 with fail
        obtain ⟨WC, rfl⟩ : ∃ W, W = wr := ⟨_, rfl⟩
        go_cut [19] (CutU q.1 L WC)
        case first =>
          go_region_held3 (fun w' => (∀ a : Addr, a.block < WC.heap.size → w'.cell? a = WC.cell? a) ∧ ∃ y, w' = ext WC y) (first | exact heldE (by refine x'z ?_; repeat (with_reducible (first | exact x'a _ _ | exact x'b _ | exact x'c (by assumption) | refine x'd ?_ (by assumption) | refine x'e ?_ _ | refine x'f ?_ _ | refine x'g ?_ | refine x'h ?_ ?_ _ | refine x'i ?_ _ | refine x'j ?_ | refine x'k ?_ _ | refine x'l ?_ _ _ | refine x'm ?_ | assumption | (refine x'n ?_; omega) | omega)))) ((go_at_call 126; refine (sorted_any jn.length A7 c7 jn _ (Nat.le_refl _) hjb hc7 HLE.out (rv7.toExt (by refine x'z ?_; repeat (with_reducible (first | exact x'a _ _ | exact x'b _ | exact x'c (by assumption) | refine x'd ?_ (by assumption) | refine x'e ?_ _ | refine x'f ?_ _ | refine x'g ?_ | refine x'h ?_ ?_ _ | refine x'i ?_ _ | refine x'j ?_ | refine x'k ?_ _ | refine x'l ?_ _ _ | refine x'm ?_ | assumption | (refine x'n ?_; omega) | omega))))).mono ?_; rintro e w8 ⟨v8, F8, rfl, hx8, hS8, hN8, hF8⟩; rw [HFA2.out] at hS8; obtain ⟨A8, c8, rfl, _, _⟩ := hS8.form; (first | (have L3 : BoxAt w8 WC.heap.size #[.int .i64 0, .slice none 0 0] := BoxAt.toExt (BoxAt.new WC _ _) hx8; obtain ⟨z1, z2, z3, z4⟩ := bx2 L3) | (have L3 : BoxAt w8 WC.heap.size #[.int .i64 0, .slice none 0 0] := BoxAt.toExt (BoxAt.new WC.drew _ _) hx8; obtain ⟨z1, z2, z3, z4⟩ := bx2 L3) | (have L3 : BoxAt w8 WC.heap.size #[.int .i64 0, .slice none 0 0] := BoxAt.toExt (BoxAt.new WC _ _).drew hx8; obtain ⟨z1, z2, z3, z4⟩ := bx2 L3) | skip)))
          all_goals
            go_wp2_with fail
            go_meet
            have hz3 := size_of_ext hx8
            (first | simp only [World.size_alloc, World.drew] at hz3 hF8 | simp only [World.drew] at hz3 hF8)
            have hI8 : sII w8 [.slice A8 L.length c8] L F8 := ⟨_, rfl, hS8⟩
            first
              | exact ⟨w8.heap.size, A8, c8, F8, rfl, BoxAt.new _ _ _, OD.toExt hI8 (alloc_ext _ _), hN8, fun x hx => by have := hF8 x hx; omega, by omega, (by refine x'z ?_; repeat (with_reducible (first | exact x'a _ _ | exact x'b _ | exact x'c (by assumption) | refine x'd ?_ (by assumption) | refine x'e ?_ _ | refine x'f ?_ _ | refine x'g ?_ | refine x'h ?_ ?_ _ | refine x'i ?_ _ | refine x'j ?_ | refine x'k ?_ _ | refine x'l ?_ _ _ | refine x'm ?_ | assumption | (refine x'n ?_; omega) | omega)))⟩
              | exact ⟨WC.heap.size, A8, c8, F8, rfl, (by repeat (with_reducible (first | assumption | exact BoxAt.new _ _ _ | apply BoxAt.set2 | refine BoxAt.set2' ?_ (by omega) | apply BoxAt.setP0 | apply BoxAt.setP1 | refine BoxAt.setO ?_ (by omega) | refine BoxAt.alloc ?_ _ | refine BoxAt.drew ?_ | refine BoxAt.toExt ?_ (by assumption)))), OD.chg (G := [WC.heap.size]) hI8 (by repeat (with_reducible (first | exact Chg.refl _ _ | refine Chg.trans0 ?_ (by assumption) | refine Chg.extS ?_ _ | refine Chg.alloc ?_ _ | refine Chg.drew ?_ | refine Chg.setCell ?_ (.inl (by simp)) _))) (fun x hx hm => by have := hF8 x hx; rw [List.mem_singleton.1 hm] at this; omega), hN8, fun x hx => by have := hF8 x hx; omega, by omega, (by refine x'z ?_; repeat (with_reducible (first | exact x'a _ _ | exact x'b _ | exact x'c (by assumption) | refine x'd ?_ (by assumption) | refine x'e ?_ _ | refine x'f ?_ _ | refine x'g ?_ | refine x'h ?_ ?_ _ | refine x'i ?_ _ | refine x'j ?_ | refine x'k ?_ _ | refine x'l ?_ _ _ | refine x'm ?_ | assumption | (refine x'n ?_; omega) | omega)))⟩
        obtain ⟨bX, A8, c8, F8, rfl, BX, hI8, hN8, hF8, hbX, hxX⟩ := hcut
        obtain ⟨w4, rfl⟩ : ∃ W, W = wc := ⟨_, rfl⟩
        have R4 := R2.toExt hxX
        have hz4 := size_of_ext hxX
        obtain ⟨lx4, x40, x41, fx4⟩ := bx2 BX
        obtain ⟨t, ht⟩ : ∃ t, rowsB q.1 L = t := ⟨_, rfl⟩
        have HTB := Lib.hid ht
        have HI8 := Lib.hid hI8
        have hrL := (vII_get (sII_v _ _ _ hI8)).2
        have xw4 := trans_ext hw hxX
        clear ht hI8 lq2 q20 q21 q22 fq2 lp2 p20 fp2
        cases t with
        | false =>
          have HZ := Lib.hid (show bindR d q = none by rw [HBI2.out, HTB.out]; rfl)
          go_wp2_with (go_at_call 122; refine (IsValidRelation_w hLb HAR.out hrL).mono ?_; rintro e w9 ⟨rfl, hx9⟩; rw [HTB.out]; obtain ⟨lr9, r90, r91, fr9⟩ := bx2 (R4.toExt hx9))
          refine bodyPost_ret (v := .tuple #[.agg #[.int .i64 0, .slice none 0 0], .bool false]) (by simp [results, Try.results106, go_sem, *]) rfl (relOut_none HZ.out rfl (by refine x'z ?_; repeat (with_reducible (first | exact x'a _ _ | exact x'b _ | exact x'c (by assumption) | refine x'd ?_ (by assumption) | refine x'e ?_ _ | refine x'f ?_ _ | refine x'g ?_ | refine x'h ?_ ?_ _ | refine x'i ?_ _ | refine x'j ?_ | refine x'k ?_ _ | refine x'l ?_ _ _ | refine x'm ?_ | assumption | (refine x'n ?_; omega) | omega))))
        | true =>
          have HZ := Lib.hid (show bindR d q = some (q.1, L) by rw [HBI2.out, HTB.out]; rfl)
          go_wp2_with (go_at_call 122; refine (IsValidRelation_w hLb HAR.out hrL).mono ?_; rintro e w9 ⟨rfl, hx9⟩; rw [HTB.out]; obtain ⟨lr9, r90, r91, fr9⟩ := bx2 (R4.toExt hx9); obtain ⟨lx9, x90, x91, fx9⟩ := bx2 (BX.toExt hx9))
          refine bodyPost_ret (v := .tuple #[.agg #[.int .i64 q.1, .slice A8 L.length c8], .bool true]) (by simp [results, Try.results106, go_sem, *]) rfl ⟨_, _, F8, by rw [HZ.out]; rfl, (by refine x'z ?_; repeat (with_reducible (first | exact x'a _ _ | exact x'b _ | exact x'c (by assumption) | refine x'd ?_ (by assumption) | refine x'e ?_ _ | refine x'f ?_ _ | refine x'g ?_ | refine x'h ?_ ?_ _ | refine x'i ?_ _ | refine x'j ?_ | refine x'k ?_ _ | refine x'l ?_ _ _ | refine x'm ?_ | assumption | (refine x'n ?_; omega) | omega))), ?_, hN8, fun b hb => ?_⟩
          · rw [HZ.out]
            refine sRel_mk (z := q.1) (rows := L) ?_
            refine OD.chg (E := sII) (G := [w.heap.size + 1 + 1]) (OD.toExt HI8.out hx9) (by repeat (with_reducible (first | exact Chg.refl _ _ | refine Chg.trans0 ?_ (by assumption) | refine Chg.extS ?_ _ | refine Chg.alloc ?_ _ | refine Chg.drew ?_ | refine Chg.setCell ?_ (.inl (by simp)) _))) ?_
            intro b hb h
            have := hF8 b hb
            rw [List.mem_singleton.1 h] at this
            omega
          · have := hF8 b hb
            omega
set_option maxHeartbeats 4000000 in
theorem AllBindings_any {A B C : Option Addr} {c e g : Nat} {d : Dbd} {q : Qd} {w : World} (hd : WDb d) (h1 : RV 3 vTb w A d) (hb : BQ q) (h2 : vQ w [.int .i64 q.1, .slice B q.2.1.length e, .slice C q.2.2.length g] q) :
    Calls Try.prog 33 #[.agg #[.slice A d.length c], .agg #[.int .i64 q.1, .slice B q.2.1.length e, .slice C q.2.2.length g]] w (RelRes ((bindR d q).getD (0, [])) w) := by
  have HD := Lib.hid hd
  have HB := Lib.hid hb
  have HV := Lib.hid h2
  obtain ⟨t1, ht1⟩ : ∃ t, iqfB d q = t := ⟨_, rfl⟩
  have HT1 := Lib.hid ht1
  have HQ := Lib.hid (fun (h : t1 = true) => qok (show iqfB d q = true by rw [ht1, h]))
  clear hd hb h2 ht1
  go_enter Try.func33, Try.ntmps33
  go_upto_region 1 with fail
  refine wp_name ?_
  intro W hW
  have xW : ∃ y, W = ext w y := by rw [hW.out]; exact (by refine x'z ?_; repeat (with_reducible (first | exact x'a _ _ | exact x'b _ | exact x'c (by assumption) | refine x'd ?_ (by assumption) | refine x'e ?_ _ | refine x'f ?_ _ | refine x'g ?_ | refine x'h ?_ ?_ _ | refine x'i ?_ _ | refine x'j ?_ | refine x'k ?_ _ | refine x'l ?_ _ _ | refine x'm ?_ | assumption | (refine x'n ?_; omega) | omega)))
  have PW : BoxAt W w.heap.size #[.slice A d.length c] := by rw [hW.out]; exact (by repeat (with_reducible (first | assumption | exact BoxAt.new _ _ _ | apply BoxAt.set10 | apply BoxAt.set2 | refine BoxAt.set2' ?_ (by omega) | apply BoxAt.setP0 | apply BoxAt.setP1 | refine BoxAt.setO ?_ (by omega) | refine BoxAt.alloc ?_ _ | refine BoxAt.drew ?_ | refine BoxAt.toExt ?_ (by assumption))))
  have QW : BoxAt W (w.heap.size + 1) #[.int .i64 q.1, .slice B q.2.1.length e, .slice C q.2.2.length g] := by
    rw [hW.out]
    refine ⟨?_, fun j => ?_, fun j => ?_⟩ <;> go_simp
  have RW : BoxAt W (w.heap.size + 1 + 1) #[.int .i64 0, .slice none 0 0] := by rw [hW.out]; refine ⟨?_, fun j => ?_, fun j => ?_⟩ <;> go_simp
  obtain ⟨lp, p0, fp⟩ := bx1 PW
  obtain ⟨lq, q0, q1, q2, fq⟩ := box3 QW
  clear hW
  obtain ⟨o, ho⟩ : ∃ o, bindR d q = o := ⟨_, rfl⟩
  have HO := Lib.hid ho
  clear ho
  go_wp2_with (go_at_call 106; refine (bindings_any HD.out (h1.toExt xW) HB.out (VD.toExt HV.out xW)).mono ?_; rw [HO.out]; rintro e w1 ⟨u0, u1, F1, rfl, hx1, hS1, hN1, hF1⟩; obtain ⟨A1, c1, rfl, rfl, hI1⟩ := sRel_form hS1; obtain ⟨lr1, r10, r11, fr1⟩ := bx2 (RW.toExt hx1))
  have hzW := size_of_ext hx1
  have hzw := RW.1
  have hz0 := size_of_ext xW
  refine bodyPost_ret (v := .agg #[.int .i64 (o.getD (0, [])).1, .slice A1 (o.getD (0, [])).2.length c1]) (by simp [results, Try.results33, go_sem, *]) rfl ⟨_, _, F1, rfl, (by refine x'z ?_; repeat (with_reducible (first | exact x'a _ _ | exact x'b _ | exact x'c (by assumption) | refine x'd ?_ (by assumption) | refine x'e ?_ _ | refine x'f ?_ _ | refine x'g ?_ | refine x'h ?_ ?_ _ | refine x'i ?_ _ | refine x'j ?_ | refine x'k ?_ _ | refine x'l ?_ _ _ | refine x'm ?_ | assumption | (refine x'n ?_; omega) | omega))), ?_, hN1, fun b hb => ?_⟩
  · rw [HO.out]
    refine sRel_mk (z := (o.getD (0, [])).1) (rows := (o.getD (0, [])).2) ?_
    refine OD.chg (E := sII) (G := [w.heap.size + 1 + 1]) hI1 (by repeat (with_reducible (first | exact Chg.refl _ _ | refine Chg.trans0 ?_ (by assumption) | refine Chg.extS ?_ _ | refine Chg.alloc ?_ _ | refine Chg.drew ?_ | refine Chg.setCell ?_ (.inl (by simp)) _))) ?_
    intro b hb h
    have := hF1 b hb
    rw [List.mem_singleton.1 h] at this
    omega
  · have := hF1 b hb
    omega
end Go.Proofs.Ytfigcfajkilhiaa
