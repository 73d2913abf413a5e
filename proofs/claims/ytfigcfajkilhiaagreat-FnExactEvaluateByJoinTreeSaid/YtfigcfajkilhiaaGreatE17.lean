/- Contracts of functions that the statement reaches. -/
import Derived.Test.YtfigcfajkilhiaaGreatE16
import Derived.Test.YtfigcfajkilhiaaGreatE11
import Derived.Test.YtfigcfajkilhiaaGreatE08
namespace Go.Proofs.YtfigcfajkilhiaaGreat
open Go.RowKit
def fitI (xs row : List Int) (k : Nat) : Bool := (List.range k).all fun j => decide (valAt xs row (xs.getD j 0) = row.getD j 0)
def fitS (vars xs row : List Int) (k : Nat) : Bool := (List.range k).all fun j => decide (xs.getD j 0 ∈ vars) && decide (valAt xs row (xs.getD j 0) = row.getD j 0)
theorem fitI_step {xs row : List Int} {k : Nat} : fitI xs row (k + 1) = (fitI xs row k && decide (valAt xs row (xs.getD k 0) = row.getD k 0)) := by
  unfold fitI
  rw [List.range_succ, List.all_append]
  simp
theorem fitS_step {vars xs row : List Int} {k : Nat} : fitS vars xs row (k + 1) = (fitS vars xs row k && (decide (xs.getD k 0 ∈ vars) && decide (valAt xs row (xs.getD k 0) = row.getD k 0))) := by
  unfold fitS
  rw [List.range_succ, List.all_append]
  simp
theorem fitI_all {xs row : List Int} (hl : row.length = xs.length) : fitI xs row xs.length = rowFit xs row := by
  rw [Bool.eq_iff_iff]
  unfold fitI rowFit
  rw [List.all_eq_true, decide_eq_true_eq]
  constructor
  · intro h
    apply List.ext_getElem
    · simp [hl]
    · intro i h1 h2
      have hi : i < xs.length := by simpa using h1
      have := h i (List.mem_range.2 hi)
      rw [decide_eq_true_eq, getDl _ _ hi, getDl _ _ h2] at this
      rw [List.getElem_map]
      exact this
  · intro h j hj
    have hj := List.mem_range.1 hj
    rw [decide_eq_true_eq, getDl _ _ hj, getDl row _ (show j < row.length by omega)]
    have : (xs.map (valAt xs row)).getD j 0 = row.getD j 0 := by rw [h]
    rw [getDl _ _ (show j < (xs.map (valAt xs row)).length by simpa using hj), List.getElem_map, getDl row _ (show j < row.length by omega)] at this
    exact this
theorem fitS_all {vars xs row : List Int} (hl : row.length = xs.length) : fitS vars xs row xs.length = (rowFit xs row && xs.all fun v => decide (v ∈ vars)) := by
  rw [← fitI_all hl, Bool.eq_iff_iff]
  unfold fitI fitS
  simp only [List.all_eq_true, Bool.and_eq_true, decide_eq_true_eq]
  constructor
  · intro h
    refine ⟨fun j hj => (h j hj).2, fun v hv => ?_⟩
    obtain ⟨i, hi, rfl⟩ := List.getElem_of_mem hv
    have := (h i (List.mem_range.2 hi)).1
    rwa [getDl _ _ hi] at this
  · rintro ⟨h1, h2⟩ j hj
    have hj' := List.mem_range.1 hj
    exact ⟨by rw [getDl _ _ hj']; exact h2 _ (List.getElem_mem hj'), h1 j hj⟩
def VOk (xs row L : List Int) (k : Nat) : Prop := L.length = 5 ∧ (fitI xs row k = true → ∀ j, j < k → j < xs.length → L.getD (xs.getD j 0).toNat 0 = valAt xs row (xs.getD j 0))
theorem VOk.step {xs row L : List Int} {k : Nat} (h : VOk xs row L k) (hb : ∀ v ∈ xs, 0 ≤ v ∧ v ≤ 4) (hk : k < xs.length) : VOk xs row (L.set (xs.getD k 0).toNat (row.getD k 0)) (k + 1) := by
  obtain ⟨h1, h2⟩ := h
  refine ⟨by simpa using h1, fun hf j hj hjl => ?_⟩
  rw [fitI_step, Bool.and_eq_true, decide_eq_true_eq] at hf
  have bk := hb _ (List.getElem_mem hk)
  have bj := hb _ (List.getElem_mem hjl)
  rw [getDl _ _ hk] at hf ⊢
  rw [getDl _ _ hjl]
  by_cases e : xs[k].toNat = xs[j].toNat
  · have e2 : xs[j] = xs[k] := by omega
    rw [e2, getD_set_self (by omega)]
    exact hf.2.symm
  · rw [getD_set_ne e]
    have hjk : j < k := by
      rcases Nat.lt_or_eq_of_le (Nat.le_of_lt_succ hj) with k1 | k1
      · exact k1
      · subst k1; exact absurd rfl e
    have := h2 hf.1 j hjk hjl
    rwa [getDl _ _ hjl] at this
theorem VOk.done {xs row L vars : List Int} (h : VOk xs row L xs.length) (hf : fitI xs row xs.length = true) (hv : ∀ v ∈ vars, v ∈ xs) : pickL L vars = vars.map (valAt xs row) := by
  unfold pickL
  refine List.map_congr_left fun v hvm => ?_
  obtain ⟨i, hi, rfl⟩ := List.getElem_of_mem (hv v hvm)
  have := h.2 hf i hi hi
  rwa [getDl _ _ hi] at this
def fitR (xs : List Int) (rows : List (List Int)) : List (List Int) := (rows.filter (rowFit xs)).map fun row => (avars 5 0 xs).map (valAt xs row)
theorem fitR_step {xs : List Int} {rows : List (List Int)} {k : Nat} (h : k < rows.length) : fitR xs (rows.take (k + 1)) = fitR xs (rows.take k) ++ (if rowFit xs rows[k] = true then [(avars 5 0 xs).map (valAt xs rows[k])] else []) := by
  unfold fitR
  rw [List.take_succ_eq_append_getElem h, List.filter_append, List.filter_cons, List.filter_nil, List.map_append]
  by_cases h1 : rowFit xs rows[k] = true <;> simp [h1]
theorem fitR_len {xs : List Int} {rows : List (List Int)} {k : Nat} : (fitR xs (rows.take k)).length ≤ k := by
  unfold fitR
  rw [List.length_map]
  exact Nat.le_trans (List.length_filter_le _ _) (by simp; omega)
theorem fitR_el {xs : List Int} {rows : List (List Int)} : ∀ x ∈ fitR xs rows, x.length ≤ 5 := fun x hx => by
  unfold fitR at hx
  obtain ⟨r, _, rfl⟩ := List.mem_map.1 hx
  rw [List.length_map]
  exact avars_length 5 0 xs
theorem atomBd_yes {d : Dbd} {a : At} (h1 : atFit d a = true) (h2 : ∀ v ∈ a.2, 0 ≤ v ∧ v ≤ 4) : atomBd d a = (((avars 5 0 a.2).length : Int), sortR (fitR a.2 (relOf d a).2)) := by
  unfold atomBd fitR
  rw [if_pos ⟨h1, h2⟩]
theorem atomBd_no {d : Dbd} {a : At} (h : ¬ (atFit d a = true ∧ ∀ v ∈ a.2, 0 ≤ v ∧ v ≤ 4)) : atomBd d a = (((avars 5 0 a.2).length : Int), []) := by
  unfold atomBd
  rw [if_neg h]
def fitRS (xs : List Int) (rows : List (List Int)) : List (List Int) := (rows.filter fun row => rowFit xs row && xs.all fun v => decide (v ∈ avars 5 0 xs)).map fun row => (avars 5 0 xs).map (valAt xs row)
theorem fitRS_step {xs : List Int} {rows : List (List Int)} {k : Nat} (h : k < rows.length) : fitRS xs (rows.take (k + 1)) = fitRS xs (rows.take k) ++ (if (rowFit xs rows[k] && xs.all fun v => decide (v ∈ avars 5 0 xs)) = true then [(avars 5 0 xs).map (valAt xs rows[k])] else []) := by
  unfold fitRS
  rw [List.take_succ_eq_append_getElem h, List.filter_append, List.filter_cons, List.filter_nil, List.map_append]
  by_cases h1 : (rowFit xs rows[k] && xs.all fun v => decide (v ∈ avars 5 0 xs)) = true <;> simp [h1]
theorem fitRS_len {xs : List Int} {rows : List (List Int)} {k : Nat} : (fitRS xs (rows.take k)).length ≤ k := by
  unfold fitRS
  rw [List.length_map]
  exact Nat.le_trans (List.length_filter_le _ _) (by simp; omega)
theorem fitRS_el {xs : List Int} {rows : List (List Int)} : ∀ x ∈ fitRS xs rows, x.length = (avars 5 0 xs).length := fun x hx => by
  unfold fitRS at hx
  obtain ⟨r, _, rfl⟩ := List.mem_map.1 hx
  rw [List.length_map]
theorem fitRS_eq {d : Dbd} {a : At} (h : atFit d a = true) : newR ((avars 5 0 a.2).length : Int) (fitRS a.2 (relOf d a).2) = some (atomBd d a) := by
  obtain ⟨_, hT, hl⟩ := atFit_some h
  have hcnt := hT.cnt
  have h5 := avars_length 5 0 a.2
  by_cases hc : ∀ v ∈ a.2, 0 ≤ v ∧ v ≤ 4
  · have e : fitRS a.2 (relOf d a).2 = fitR a.2 (relOf d a).2 := by
      unfold fitRS fitR
      have : (a.2.all fun v => decide (v ∈ avars 5 0 a.2)) = true := by
        rw [List.all_eq_true]
        intro v hv
        rw [decide_eq_true_eq, mem_av5 hc]
        exact hv
      simp only [this, Bool.and_true]
    rw [e, atomBd_yes h hc]
    have hok := atomBd_ok (d := d) (a := a)
    unfold atomVR at hok
    rw [atomBd_yes h hc] at hok
    refine newR_some (rowsIn_iff.2 fun r hr => ⟨?_, hok.rv r (mem_sortR.2 hr)⟩) (by omega) (by omega) hok.cnt
    have := hok.rl r (mem_sortR.2 hr)
    simp only at this
    rw [this]
  · have e : fitRS a.2 (relOf d a).2 = [] := by
      unfold fitRS
      have : (a.2.all fun v => decide (v ∈ avars 5 0 a.2)) = false := by
        rw [Bool.eq_false_iff]
        intro h9
        rw [List.all_eq_true] at h9
        refine hc fun v hv => ?_
        have := (mem_avars 5 0 _ _).1 (of_decide_eq_true (h9 v hv))
        omega
      simp only [this, Bool.and_false]
      simp
    rw [e, atomBd_no (fun k => hc k.2)]
    exact newR_some (rowsIn_iff.2 (by simp)) (by omega) (by omega) (by simp [sortR])
end Go.Proofs.YtfigcfajkilhiaaGreat
namespace Go.Proofs.YtfigcfajkilhiaaGreat
open Go.RowKit
def projR (d : Rd) (cols : List Int) : Option Rd := if rowsB d.1 d.2 = true ∧ fitsC d.1 cols = true then newR (cols.length : Int) (d.2.map fun r => pickL r cols) else none
theorem proj_in {a : Int} {rows : List (List Int)} {cols : List Int} (h : rowsB a rows = true) (hf : fitsC a cols = true) : ∀ r ∈ rows, ∀ v ∈ cols, 0 ≤ v ∧ v < r.length := fun r hr v hv => by
  have h1 := ((rowsB_iff.1 h).2.2.2.1 r hr).1
  have h2 := (fitsC_iff.1 hf).2 v hv
  omega
theorem map_take_step {rows : List (List Int)} {cols : List Int} {k : Nat} (h : k < rows.length) : (rows.take (k + 1)).map (fun r => pickL r cols) = (rows.take k).map (fun r => pickL r cols) ++ [pickL rows[k] cols] := by
  rw [List.take_succ_eq_append_getElem h, List.map_append]; rfl
set_option maxRecDepth 100000 in
set_option maxHeartbeats 8000000 in
theorem Project_any {a : Int} {A A' : Option Addr} {c c' : Nat} {rows : List (List Int)} {cols : List Int} {w : World} (ha : I64 a) (hx : rows.length ≤ 1000000000) (hxl : ∀ x ∈ rows, x.length ≤ 1000000000) (h1 : RII w A rows) (hc : cols.length ≤ 1000000000) (h2 : RI w A' cols) :
    Calls Tryz.prog 57 #[.agg #[.int .i64 a, .slice A rows.length c], .slice A' cols.length c'] w (RelOut (projR (a, rows) cols) w) := by
  obtain ⟨ha1, ha2⟩ := ha
  have Hxl := Lib.hid hxl
  obtain ⟨t, ht⟩ : ∃ t, rowsB a rows = t := ⟨_, rfl⟩
  have HT := Lib.hid ht
  clear hxl ht
  go_enter Tryz.func57, Tryz.ntmps57
  go_upto_region 1 with fail
  refine wp_name ?_
  intro W hW
  have xW : ∃ y, W = ext w y := by rw [hW.out]; exact (by refine x'z ?_; repeat (with_reducible (first | exact x'a _ _ | exact x'b _ | exact x'c (by assumption) | refine x'd ?_ (by assumption) | refine x'e ?_ _ | refine x'f ?_ _ | refine x'g ?_ | refine x'h ?_ ?_ _ | refine x'i ?_ _ | refine x'j ?_ | refine x'k ?_ _ | refine x'l ?_ _ _ | refine x'm ?_ | assumption | (refine x'n ?_; omega) | omega)))
  have PW : BoxAt W w.heap.size #[.int .i64 a, .slice A rows.length c] := by rw [hW.out]; exact (by repeat (with_reducible (first | assumption | exact BoxAt.new _ _ _ | apply BoxAt.set2 | refine BoxAt.set2' ?_ (by omega) | apply BoxAt.setP0 | apply BoxAt.setP1 | refine BoxAt.setO ?_ (by omega) | refine BoxAt.alloc ?_ _ | refine BoxAt.drew ?_ | refine BoxAt.toExt ?_ (by assumption))))
  have RW : BoxAt W (w.heap.size + 1) #[.int .i64 0, .slice none 0 0] := by
    rw [hW.out]
    simpa using BoxAt.new (w.alloc (.cells #[.int .i64 a, .slice A rows.length c] 58)) #[.int .i64 0, .slice none 0 0] 58
  obtain ⟨lp, p0, p0', fp⟩ := bx2 PW
  obtain ⟨lr, r0, r0', fr⟩ := bx2 RW
  clear hW
  cases t with
  | false =>
    have HZ := Lib.hid (show projR (a, rows) cols = none by unfold projR; rw [HT.out]; simp)
    go_wp2_with (go_at_call 94; refine (IsValidRelation_w hx Hxl.out (h1.toExt xW)).mono ?_; rintro e w3 ⟨rfl, hx3⟩; rw [HT.out]; obtain ⟨l3, a3, a3', f3⟩ := bx2 (RW.toExt hx3))
    refine bodyPost_ret (v := .tuple #[.agg #[.int .i64 0, .slice none 0 0], .bool false]) (by simp [results, Tryz.results57, go_sem, *]) rfl (relOut_none HZ.out rfl (by refine x'z ?_; repeat (with_reducible (first | exact x'a _ _ | exact x'b _ | exact x'c (by assumption) | refine x'd ?_ (by assumption) | refine x'e ?_ _ | refine x'f ?_ _ | refine x'g ?_ | refine x'h ?_ ?_ _ | refine x'i ?_ _ | refine x'j ?_ | refine x'k ?_ _ | refine x'l ?_ _ _ | refine x'm ?_ | assumption | (refine x'n ?_; omega) | omega))))
  | true =>
    have hv := rowsB_iff.1 HT.out
    have ha5 := hv.1
    have ha6 := hv.2.1
    obtain ⟨t2, ht2⟩ : ∃ t, fitsC a cols = t := ⟨_, rfl⟩
    have HT2 := Lib.hid ht2
    have HV := Lib.hid hv
    clear ht2 hv
    cases t2 with
    | false =>
      have HZ := Lib.hid (show projR (a, rows) cols = none by unfold projR; rw [HT2.out]; simp)
      go_wp2_with (first
        | (go_at_call 94; refine (IsValidRelation_w hx Hxl.out (h1.toExt xW)).mono ?_; rintro e w3 ⟨rfl, hx3⟩; rw [HT.out]; obtain ⟨l3, a3, a3', f3⟩ := bx2 (RW.toExt hx3); obtain ⟨l4, a4, a4', f4⟩ := bx2 (PW.toExt hx3))
        | (go_at_call 95; refine (columnsFit_any (by omega) (by omega) hc (h2.toExt (trans_ext xW hx3))).mono ?_; rintro e w4 ⟨rfl, rfl⟩; rw [HT2.out]))
      refine bodyPost_ret (v := .tuple #[.agg #[.int .i64 0, .slice none 0 0], .bool false]) (by simp [results, Tryz.results57, go_sem, *]) rfl (relOut_none HZ.out rfl (by refine x'z ?_; repeat (with_reducible (first | exact x'a _ _ | exact x'b _ | exact x'c (by assumption) | refine x'd ?_ (by assumption) | refine x'e ?_ _ | refine x'f ?_ _ | refine x'g ?_ | refine x'h ?_ ?_ _ | refine x'i ?_ _ | refine x'j ?_ | refine x'k ?_ _ | refine x'l ?_ _ _ | refine x'm ?_ | assumption | (refine x'n ?_; omega) | omega))))
    | true =>
      have HP := Lib.hid (proj_in HT.out HT2.out)
      have hcl := (fitsC_iff.1 HT2.out).1
      go_wp2_with (first
        | (go_at_call 94; refine (IsValidRelation_w hx Hxl.out (h1.toExt xW)).mono ?_; rintro e w3 ⟨rfl, hx3⟩; rw [HT.out]; obtain ⟨l3, a3, a3', f3⟩ := bx2 (RW.toExt hx3); obtain ⟨l4, a4, a4', f4⟩ := bx2 (PW.toExt hx3))
        | (go_at_call 95; refine (columnsFit_any (by omega) (by omega) hc (h2.toExt (trans_ext xW hx3))).mono ?_; rintro e w4 ⟨rfl, rfl⟩; rw [HT2.out]))
      have R3 := RW.toExt hx3
      have hxw3 := trans_ext xW hx3
      have hw3s := R3.1
      clear lp p0 p0' fp lr r0 r0' fr PW RW
      go_loopw [6, 23] (fun v i wr => ∃ (k : Nat) (F : List Nat), i = .int .i64 k ∧ k ≤ rows.length ∧ SV 26 1 sRow wr v ((rows.take k).map fun r => pickL r cols) F ∧ Hid F.Nodup ∧ Hid (∀ b ∈ F, w3.heap.size ≤ b) ∧ (∃ y, wr = ext w3 y)) (fun _ i _ => rows.length - (intOf i).toNat)
      case atStart => exact ⟨0, [], rfl, by omega, SV.nil, Lib.hid (by simp), Lib.hid (by simp), refl_ext w3⟩
      case round =>
        obtain ⟨k, F, rfl, hk, hS, HN, HF, hy⟩ := hrel
        have hyw := trans_ext hxw3 hy
        obtain ⟨l5, a5, a5', f5⟩ := bx2 (R3.toExt hy)
        by_cases hlt : k < rows.length
        · obtain ⟨b, o, A1, c1, rfl, hb, hcl1, hvx⟩ := (h1.toExt hyw).atV hlt
          have hpx := HP.out rows[k] (List.getElem_mem hlt)
          have Ht := Lib.hid (map_take_step (cols := cols) hlt)
          have hlk : ((rows.take k).map fun r => pickL r cols).length + 1 ≤ 2000000000 := by simp; omega
          have hSlt := Lib.hid hS.lt
          obtain ⟨x, hx1⟩ : ∃ x, rows[k] = x := ⟨_, rfl⟩
          rw [hx1] at hcl1 hvx hpx Ht
          obtain ⟨px, hpx2⟩ : ∃ p, pickL x cols = p := ⟨_, rfl⟩
          have HPX := Lib.hid hpx2
          rw [hpx2] at Ht
          have HPI := Lib.hid hpx
          clear hx1 hpx2 hpx
          go_wp2_with (first
            | (go_at_call 96; refine (pick_any hvx hc (h2.toExt hyw) HPI.out).mono ?_; rintro e w1 ⟨v1, F1, rfl, hx1, hS1, hF1⟩; rw [HPX.out] at hS1; obtain ⟨A2, c2, rfl, _, _⟩ := hS1.form; have hN2 := nodup_more HN.out hS1.nodup hSlt.out hF1; have hz1 := size_of_ext hx1)
            | (at_builtin; refine wpList_appN (E := sRow) (d := px) (G := F1) rfl _ _ _ rfl tIIr rfl rfl rfl (by simp) ⟨_, rfl, hS1⟩ rfl (by simp [Value.oneCell']) (hS.toExt hx1) hN2 hlk (by omega) ?_; intro v' w' F' hS' hC' hN' hF'))
          refine ⟨⟨k + 1, F', by go_num, by omega, by rw [Ht.out]; exact hS', Lib.hid hN', Lib.hid (fun b hb => ?_), hC'.isExt (trans_ext hy hx1) HF.out⟩, by simp [intOf]; omega⟩
          have hzw := size_of_ext hy
          rcases hF' b hb with h | h | h
          · exact HF.out b h
          · have := hF1 b h; omega
          · omega
        · rw [List.take_of_length_le (by omega)] at hS
          have HZ := Lib.hid (show projR (a, rows) cols = newR (cols.length : Int) (rows.map fun r => pickL r cols) by unfold projR; rw [if_pos ⟨HT.out, HT2.out⟩])
          obtain ⟨pr, hpr⟩ : ∃ p, (rows.map fun r => pickL r cols) = p := ⟨_, rfl⟩
          have hprl : pr.length ≤ 1000000000 := by rw [← hpr]; simpa using hx
          have Hprx : Hid (∀ x ∈ pr, x.length ≤ 1000000000) := Lib.hid (fun x hx => by
            rw [← hpr] at hx
            obtain ⟨r, _, rfl⟩ := List.mem_map.1 hx
            rw [pickL_length]; exact hc)
          rw [hpr] at hS HZ
          obtain ⟨nr, hnr⟩ : ∃ o, newR (cols.length : Int) pr = o := ⟨_, rfl⟩
          have HNR := Lib.hid hnr
          clear hpr hnr
          obtain ⟨A3, c3, rfl, hc3, _, rv3⟩ := hS.view (V := vSl 1 vI) (sSl_v sI_v)
          go_wp2_with (go_at_call 97; refine (NewRelation_any ⟨by omega, by omega⟩ hprl hc3 Hprx.out rv3).mono ?_; rw [HNR.out]; rintro e w5 ⟨v0, v1, F5, rfl, hx5, hS5, hN5, hF5⟩; obtain ⟨A6, c6, rfl, rfl, hS6⟩ := sRel_form hS5; obtain ⟨l6, a6, a6', f6⟩ := bx2 ((R3.toExt hy).toExt hx5))
          have hzz := size_of_ext (trans_ext hy hx5)
          have hzy := size_of_ext hy
          refine bodyPost_ret (v := .tuple #[.agg #[.int .i64 (nr.getD (0, [])).1, .slice A6 (nr.getD (0, [])).2.length c6], .bool nr.isSome]) (by simp [results, Tryz.results57, go_sem, *]) rfl ?_
          refine ⟨_, _, F5, by rw [HZ.out, HNR.out], (by refine x'z ?_; repeat (with_reducible (first | exact x'a _ _ | exact x'b _ | exact x'c (by assumption) | refine x'd ?_ (by assumption) | refine x'e ?_ _ | refine x'f ?_ _ | refine x'g ?_ | refine x'h ?_ ?_ _ | refine x'i ?_ _ | refine x'j ?_ | refine x'k ?_ _ | refine x'l ?_ _ _ | refine x'm ?_ | assumption | (refine x'n ?_; omega) | omega))), ?_, hN5, fun b hb => ?_⟩
          · rw [HZ.out, HNR.out]
            refine OD.chg (E := sRel) (G := [w.heap.size + 1]) hS5 (by repeat (with_reducible (first | exact Chg.refl _ _ | refine Chg.trans0 ?_ (by assumption) | refine Chg.extS ?_ _ | refine Chg.alloc ?_ _ | refine Chg.drew ?_ | refine Chg.setCell ?_ (.inl (by simp)) _))) ?_
            intro b hb h
            have := hF5 b hb
            rw [List.mem_singleton.1 h] at this
            omega
          · have := hF5 b hb
            have := size_of_ext hyw
            omega
set_option maxRecDepth 100000 in
set_option maxHeartbeats 8000000 in
theorem specProject_any {a : Int} {A A' : Option Addr} {c c' : Nat} {rows : List (List Int)} {cols : List Int} {w : World} (ha : -1000000000 ≤ a ∧ a ≤ 1000000000) (hx : rows.length ≤ 1000000000) (hxl : ∀ x ∈ rows, x.length ≤ 1000000000) (h1 : RII w A rows) (hc : cols.length ≤ 1000000000) (h2 : RI w A' cols) :
    Calls Tryz.prog 54 #[.agg #[.int .i64 a, .slice A rows.length c], .slice A' cols.length c'] w (RelOut (projR (a, rows) cols) w) := by
  obtain ⟨ha1, ha2⟩ := ha
  have Hxl := Lib.hid hxl
  obtain ⟨t, ht⟩ : ∃ t, rowsB a rows = t := ⟨_, rfl⟩
  have HT := Lib.hid ht
  clear hxl ht
  go_enter Tryz.func54, Tryz.ntmps54
  go_upto_region 1 with fail
  refine wp_name ?_
  intro W hW
  have xW : ∃ y, W = ext w y := by rw [hW.out]; exact (by refine x'z ?_; repeat (with_reducible (first | exact x'a _ _ | exact x'b _ | exact x'c (by assumption) | refine x'd ?_ (by assumption) | refine x'e ?_ _ | refine x'f ?_ _ | refine x'g ?_ | refine x'h ?_ ?_ _ | refine x'i ?_ _ | refine x'j ?_ | refine x'k ?_ _ | refine x'l ?_ _ _ | refine x'm ?_ | assumption | (refine x'n ?_; omega) | omega)))
  have PW : BoxAt W w.heap.size #[.int .i64 a, .slice A rows.length c] := by rw [hW.out]; exact (by repeat (with_reducible (first | assumption | exact BoxAt.new _ _ _ | apply BoxAt.set2 | refine BoxAt.set2' ?_ (by omega) | apply BoxAt.setP0 | apply BoxAt.setP1 | refine BoxAt.setO ?_ (by omega) | refine BoxAt.alloc ?_ _ | refine BoxAt.drew ?_ | refine BoxAt.toExt ?_ (by assumption))))
  have RW : BoxAt W (w.heap.size + 1) #[.int .i64 0, .slice none 0 0] := by
    rw [hW.out]
    simpa using BoxAt.new (w.alloc (.cells #[.int .i64 a, .slice A rows.length c] 58)) #[.int .i64 0, .slice none 0 0] 58
  clear hW
  go_wp2_with fail
  go_loopw [6] (fun i wr => ∃ k : Nat, i = .int .i64 k ∧ k ≤ cols.length ∧ Hid (((cols.drop k).all fun c => inB c 0 (a - 1)) = cols.all fun c => inB c 0 (a - 1)) ∧ ∃ y, wr = ext W y) (fun i _ => cols.length - (intOf i).toNat)
  case atStart => exact ⟨0, rfl, by omega, Lib.hid (by simp), refl_ext W⟩
  case round =>
    obtain ⟨k, rfl, hk, Hj, hy⟩ := hrel
    have hyw := trans_ext xW hy
    obtain ⟨l1, a1, a1', f1⟩ := bx2 (RW.toExt hy)
    obtain ⟨l2, a2, a2', f2⟩ := bx2 (PW.toExt hy)
    by_cases hlt : k < cols.length
    · obtain ⟨b, o, rfl, hb, hc1⟩ := (h2.toExt hyw).atI hlt
      have e := Hj.out
      rw [allR_step hlt] at e
      obtain ⟨n, hn⟩ : ∃ n, cols[k] = n := ⟨_, rfl⟩
      rw [hn] at e hc1
      obtain ⟨t3, ht3⟩ : ∃ t, inB n 0 (a - 1) = t := ⟨_, rfl⟩
      rw [ht3] at e
      have HT3 := Lib.hid ht3
      have He := Lib.hid e
      clear e ht3 hn
      cases t3
      · have HZ := Lib.hid (show projR (a, rows) cols = none by unfold projR fitsC; rw [show (cols.all fun c => inB c 0 (a - 1)) = false by rw [← He.out]; rfl]; simp)
        go_wp2_with fail
        refine wp_region_ext (by kernel_rfl) (by kernel_rfl) ?_
        repeat (go_big_quiet_step ((go_at_call 91; exact quietSb (l1In_any _ _ _ _) HT3.out)))
        refine wpQuiet_nil ?_
        rintro _ ⟨zz, rfl⟩
        go_wp2
        refine bodyPost_ret (v := .tuple #[.agg #[.int .i64 0, .slice none 0 0], .bool false]) (by simp [results, Tryz.results54, go_sem, *]) rfl (relOut_none HZ.out rfl (by refine x'z ?_; repeat (with_reducible (first | exact x'a _ _ | exact x'b _ | exact x'c (by assumption) | refine x'd ?_ (by assumption) | refine x'e ?_ _ | refine x'f ?_ _ | refine x'g ?_ | refine x'h ?_ ?_ _ | refine x'i ?_ _ | refine x'j ?_ | refine x'k ?_ _ | refine x'l ?_ _ _ | refine x'm ?_ | assumption | (refine x'n ?_; omega) | omega))))
      · go_wp2_with fail
        refine wp_region_ext (by kernel_rfl) (by kernel_rfl) ?_
        repeat (go_big_quiet_step ((go_at_call 91; exact quietSb (l1In_any _ _ _ _) HT3.out)))
        refine wpQuiet_nil ?_
        rintro _ ⟨zz, rfl⟩
        go_wp2
        exact ⟨⟨k + 1, by go_num, by omega, Lib.hid (by simpa using He.out), (by refine x'z ?_; repeat (with_reducible (first | exact x'a _ _ | exact x'b _ | exact x'c (by assumption) | refine x'd ?_ (by assumption) | refine x'e ?_ _ | refine x'f ?_ _ | refine x'g ?_ | refine x'h ?_ ?_ _ | refine x'i ?_ _ | refine x'j ?_ | refine x'k ?_ _ | refine x'l ?_ _ _ | refine x'm ?_ | assumption | (refine x'n ?_; omega) | omega)))⟩, by simp [intOf]; omega⟩
    · have HAL := Lib.hid (show (cols.all fun c => inB c 0 (a - 1)) = true by rw [← Hj.out, allR_end hlt])
      cases t with
      | false =>
        have HZ := Lib.hid (show projR (a, rows) cols = none by unfold projR; rw [HT.out]; simp)
        go_wp2_with (go_at_call 92; refine (specIsValidRelation_w hx Hxl.out (h1.toExt hyw)).mono ?_; rintro e w3 ⟨rfl, hx3⟩; rw [HT.out]; obtain ⟨l3, a3, a3', f3⟩ := bx2 (RW.toExt (trans_ext hy hx3)))
        refine bodyPost_ret (v := .tuple #[.agg #[.int .i64 0, .slice none 0 0], .bool false]) (by simp [results, Tryz.results54, go_sem, *]) rfl (relOut_none HZ.out rfl (by refine x'z ?_; repeat (with_reducible (first | exact x'a _ _ | exact x'b _ | exact x'c (by assumption) | refine x'd ?_ (by assumption) | refine x'e ?_ _ | refine x'f ?_ _ | refine x'g ?_ | refine x'h ?_ ?_ _ | refine x'i ?_ _ | refine x'j ?_ | refine x'k ?_ _ | refine x'l ?_ _ _ | refine x'm ?_ | assumption | (refine x'n ?_; omega) | omega))))
      | true =>
        by_cases h5 : cols.length ≤ 5
        · have HF2 := Lib.hid (show fitsC a cols = true by unfold fitsC; rw [HAL.out, decide_eq_true h5]; rfl)
          have HP := Lib.hid (proj_in HT.out HF2.out)
          have HV := Lib.hid (rowsB_iff.1 HT.out)
          have hx4 : rows.length ≤ 4000 := HV.out.2.2.1
          go_wp2_with (go_at_call 92; refine (specIsValidRelation_w hx Hxl.out (h1.toExt hyw)).mono ?_; rintro e w3 ⟨rfl, hx3⟩; rw [HT.out]; obtain ⟨l3, a3, a3', f3⟩ := bx2 (RW.toExt (trans_ext hy hx3)); obtain ⟨l4, a4, a4', f4⟩ := bx2 (PW.toExt (trans_ext hy hx3)))
          have R3 := RW.toExt (trans_ext hy hx3)
          have P3 := PW.toExt (trans_ext hy hx3)
          have hxw3 := trans_ext hyw hx3
          have hw3s := R3.1
          have hS0 := SV.empty (α := List Int) (te := 26) (size := 1) (E := sRow) w3
          clear l1 a1 a1' f1 l2 a2 a2' f2 PW RW
          go_loopw [7, 8] (fun v i wr => ∃ (k : Nat) (F : List Nat), i = .int .i64 k ∧ k ≤ rows.length ∧ SV 26 1 sRow wr v ((rows.take k).map fun r => pickL r cols) F ∧ Hid F.Nodup ∧ Hid (∀ b ∈ F, w3.heap.size ≤ b) ∧ (∃ y, wr = ext w3 y)) (fun _ i _ => rows.length - (intOf i).toNat)
          case atStart => exact ⟨0, _, rfl, by omega, hS0, Lib.hid (by simp), Lib.hid (by simp), alloc_ext _ _⟩
          case round =>
            obtain ⟨k, F, rfl, hk, hS, HN, HF, hy⟩ := hrel
            have hyw := trans_ext hxw3 hy
            obtain ⟨l5, a5, a5', f5⟩ := bx2 (R3.toExt hy)
            obtain ⟨l9, a9, a9', f9⟩ := bx2 (P3.toExt hy)
            by_cases hlt : k < rows.length
            · obtain ⟨b, o, A1, c1, rfl, hb, hcl1, hvx⟩ := (h1.toExt hyw).atV hlt
              have hpx := HP.out rows[k] (List.getElem_mem hlt)
              have Ht := Lib.hid (map_take_step (cols := cols) hlt)
              have hlk : ((rows.take k).map fun r => pickL r cols).length + 1 ≤ 2000000000 := by simp; omega
              have hSlt := Lib.hid hS.lt
              obtain ⟨x, hx1⟩ : ∃ x, rows[k] = x := ⟨_, rfl⟩
              rw [hx1] at hcl1 hvx hpx Ht
              obtain ⟨px, hpx2⟩ : ∃ p, pickL x cols = p := ⟨_, rfl⟩
              have HPX := Lib.hid hpx2
              rw [hpx2] at Ht
              have HPI := Lib.hid hpx
              clear hx1 hpx2 hpx
              go_wp2_with (first
                | (go_at_call 73; refine (l5Cols_any hvx hc (h2.toExt hyw) HPI.out).mono ?_; rintro e w1 ⟨v1, F1, rfl, hx1, hS1, hF1⟩; rw [HPX.out] at hS1; obtain ⟨A2, c2, rfl, _, _⟩ := hS1.form; have hN2 := nodup_more HN.out hS1.nodup hSlt.out hF1; have hz1 := size_of_ext hx1)
                | (at_builtin; refine wpList_appN (E := sRow) (d := px) (G := F1) rfl _ _ _ rfl tIIr rfl rfl rfl (by simp) ⟨_, rfl, hS1⟩ rfl (by simp [Value.oneCell']) (hS.toExt hx1) hN2 hlk (by omega) ?_; intro v' w' F' hS' hC' hN' hF'))
              refine ⟨⟨k + 1, F', by go_num, by omega, by rw [Ht.out]; exact hS', Lib.hid hN', Lib.hid (fun b hb => ?_), hC'.isExt (trans_ext hy hx1) HF.out⟩, by simp [intOf]; omega⟩
              have hzw := size_of_ext hy
              rcases hF' b hb with h | h | h
              · exact HF.out b h
              · have := hF1 b h; omega
              · omega
            · rw [List.take_of_length_le (by omega)] at hS
              have HZ := Lib.hid (show projR (a, rows) cols = newR (cols.length : Int) (rows.map fun r => pickL r cols) by unfold projR; rw [if_pos ⟨HT.out, HF2.out⟩])
              obtain ⟨pr, hpr⟩ : ∃ p, (rows.map fun r => pickL r cols) = p := ⟨_, rfl⟩
              have hprl : pr.length ≤ 1000000000 := by rw [← hpr]; simpa using hx
              have Hprx : Hid (∀ x ∈ pr, x.length ≤ 1000000000) := Lib.hid (fun x hx => by
                rw [← hpr] at hx
                obtain ⟨r, _, rfl⟩ := List.mem_map.1 hx
                rw [pickL_length]; exact hc)
              rw [hpr] at hS HZ
              obtain ⟨nr, hnr⟩ : ∃ o, newR (cols.length : Int) pr = o := ⟨_, rfl⟩
              have HNR := Lib.hid hnr
              clear hpr hnr
              obtain ⟨A3, c3, rfl, hc3, _, rv3⟩ := hS.view (V := vSl 1 vI) (sSl_v sI_v)
              go_wp2_with (go_at_call 90; refine (specNewRelation_any ⟨by omega, by omega⟩ hprl hc3 Hprx.out rv3).mono ?_; rw [HNR.out]; rintro e w5 ⟨v0, v1, F5, rfl, hx5, hS5, hN5, hF5⟩; obtain ⟨A6, c6, rfl, rfl, hS6⟩ := sRel_form hS5; obtain ⟨l6, a6, a6', f6⟩ := bx2 ((R3.toExt hy).toExt hx5))
              have hzz := size_of_ext (trans_ext hy hx5)
              have hzy := size_of_ext hy
              have hz5 := size_of_ext hx5
              refine bodyPost_ret (v := .tuple #[.agg #[.int .i64 (nr.getD (0, [])).1, .slice A6 (nr.getD (0, [])).2.length c6], .bool nr.isSome]) (by simp [results, Tryz.results54, go_sem, *]) rfl ?_
              refine ⟨_, _, F5, by rw [HZ.out, HNR.out], (by refine x'z ?_; repeat (with_reducible (first | exact x'a _ _ | exact x'b _ | exact x'c (by assumption) | refine x'd ?_ (by assumption) | refine x'e ?_ _ | refine x'f ?_ _ | refine x'g ?_ | refine x'h ?_ ?_ _ | refine x'i ?_ _ | refine x'j ?_ | refine x'k ?_ _ | refine x'l ?_ _ _ | refine x'm ?_ | assumption | (refine x'n ?_; omega) | omega))), ?_, hN5, fun b hb => ?_⟩
              · rw [HZ.out, HNR.out]
                refine OD.chg (E := sRel) (G := [w.heap.size + 1]) hS5 (by repeat (with_reducible (first | exact Chg.refl _ _ | refine Chg.trans0 ?_ (by assumption) | refine Chg.extS ?_ _ | refine Chg.alloc ?_ _ | refine Chg.drew ?_ | refine Chg.setCell ?_ (.inl (by simp)) _))) ?_
                intro b hb h
                have := hF5 b hb
                rw [List.mem_singleton.1 h] at this
                omega
              · have := hF5 b hb
                have := size_of_ext hyw
                omega
        · have HZ := Lib.hid (show projR (a, rows) cols = none by unfold projR fitsC; rw [decide_eq_false h5]; simp)
          go_wp2_with (go_at_call 92; refine (specIsValidRelation_w hx Hxl.out (h1.toExt hyw)).mono ?_; rintro e w3 ⟨rfl, hx3⟩; rw [HT.out]; obtain ⟨l3, a3, a3', f3⟩ := bx2 (RW.toExt (trans_ext hy hx3)); obtain ⟨l4, a4, a4', f4⟩ := bx2 (PW.toExt (trans_ext hy hx3)))
          refine bodyPost_ret (v := .tuple #[.agg #[.int .i64 0, .slice none 0 0], .bool false]) (by simp [results, Tryz.results54, go_sem, *]) rfl (relOut_none HZ.out rfl (by refine x'z ?_; repeat (with_reducible (first | exact x'a _ _ | exact x'b _ | exact x'c (by assumption) | refine x'd ?_ (by assumption) | refine x'e ?_ _ | refine x'f ?_ _ | refine x'g ?_ | refine x'h ?_ ?_ _ | refine x'i ?_ _ | refine x'j ?_ | refine x'k ?_ _ | refine x'l ?_ _ _ | refine x'm ?_ | assumption | (refine x'n ?_; omega) | omega))))
end Go.Proofs.YtfigcfajkilhiaaGreat
namespace Go.Proofs.YtfigcfajkilhiaaGreat
open Go.RowKit
def okG (va r vb s : List Int) (v : Int) : Bool := !(decide (v ∈ va) && decide (v ∈ vb)) || decide (valAt va r v = valAt vb s v)
def gval (va r vb s : List Int) (v : Int) : Int := if v ∈ va then valAt va r v else valAt vb s v
def glueO (un va r vb s : List Int) : Option (List Int) := if un.all (okG va r vb s) = true then some (glueR un va r vb s) else none
theorem okG_agree {un va r vb s : List Int} (h : ∀ v, v ∈ un ↔ v ∈ va ∨ v ∈ vb) : un.all (okG va r vb s) = agreeB va r vb s := by
  rw [Bool.eq_iff_iff, List.all_eq_true, agreeB_iff]
  unfold okG
  simp only [Bool.or_eq_true, Bool.not_eq_true', Bool.and_eq_false_iff, decide_eq_false_iff_not, decide_eq_true_eq]
  constructor
  · intro k v h1 h2
    rcases k v ((h v).2 (.inl h1)) with (k | k) | k
    · exact absurd h1 k
    · exact absurd h2 k
    · exact k
  · intro k v hv
    by_cases h1 : v ∈ va
    · by_cases h2 : v ∈ vb
      · exact .inr (k v h1 h2)
      · exact .inl (.inr h2)
    · exact .inl (.inl h1)
theorem iof_none {v : Int} : ∀ {k : Nat} {va : List Int}, v ∉ va → iof k v va = -1
  | _, [], _ => rfl
  | k, x :: va, h => by
    rw [List.mem_cons, not_or] at h
    rw [iof, if_neg (fun e => h.1 e.symm), iof_none h.2]
theorem iof_at {v : Int} {va r : List Int} (h : v ∈ va) : ∃ p : Nat, p < va.length ∧ iof 0 v va = (p : Int) ∧ valAt va r v = r.getD p 0 := by
  obtain ⟨i, h1, h2⟩ := iof_get (k := 0) h
  rw [Nat.zero_add] at h1
  exact ⟨i, (List.getElem?_eq_some_iff.1 h2).1, h1, by unfold valAt; rw [h1, Int.toNat_natCast]⟩
def GluP (o : Option (List Int)) (w : World) (e : Ending) (w' : World) : Prop := ∃ v F, e = .returned (.tuple #[v, .bool o.isSome]) ∧ (∃ y, w' = ext w y) ∧ SV 3 1 sI w' v (o.getD []) F ∧ ∀ b ∈ F, w.heap.size ≤ b
theorem gl_step {un va r vb s : List Int} {k : Nat} (h : k < un.length) : glueR (un.take (k + 1)) va r vb s = glueR (un.take k) va r vb s ++ [gval va r vb s un[k]] := by
  unfold glueR
  rw [List.take_succ_eq_append_getElem h, List.map_append]; rfl
theorem all_step {p : Int → Bool} {un : List Int} {k : Nat} (h : k < un.length) (h1 : (un.take k).all p = true) (h2 : p un[k] = true) : (un.take (k + 1)).all p = true := by
  rw [List.take_succ_eq_append_getElem h, List.all_append, h1]
  simpa using h2
theorem all_fail {p : Int → Bool} {un : List Int} {k : Nat} (h : k < un.length) (h2 : p un[k] = false) : ¬ un.all p = true := by
  intro h1
  rw [List.all_eq_true] at h1
  rw [h1 _ (List.getElem_mem h)] at h2
  cases h2
set_option maxRecDepth 100000 in
set_option maxHeartbeats 8000000 in
theorem glue_any {A B C D E : Option Addr} {a b c d e : Nat} {un va r vb s : List Int} {w : World} (hn : un.length ≤ 1000000) (hu : RI w A un) (hva : va.length ≤ 1000000) (h1 : RI w B va) (hr : r.length = va.length) (h2 : RI w C r) (hvb : vb.length ≤ 1000000) (h3 : RI w D vb) (hs : s.length = vb.length) (h4 : RI w E s) (hun : ∀ v ∈ un, v ∈ va ∨ v ∈ vb) :
    Calls Tryz.prog 83 #[.slice A un.length a, .slice B va.length b, .slice C r.length c, .slice D vb.length d, .slice E s.length e] w (GluP (glueO un va r vb s) w) := by
  have Hun := Lib.hid hun
  have hr1 : r.length ≤ va.length := by omega
  have hr2 : va.length ≤ r.length := by omega
  have hs1 : s.length ≤ vb.length := by omega
  have hs2 : vb.length ≤ s.length := by omega
  have hS0 := SV.empty (α := Int) (te := 3) (size := 1) (E := sI) w
  clear hr hs hun
  go_enter Tryz.func83, Tryz.ntmps83
  go_wp2
  go_loopw [12, 20] (fun v i wr => ∃ (k : Nat) (F : List Nat), i = .int .i64 k ∧ k ≤ un.length ∧ SV 3 1 sI wr v (glueR (un.take k) va r vb s) F ∧ (∀ b ∈ F, w.heap.size ≤ b) ∧ (∃ y, wr = ext w y) ∧ Hid ((un.take k).all (okG va r vb s) = true)) (fun _ i _ => un.length - (intOf i).toNat)
  case atStart => exact ⟨0, _, rfl, by omega, by simpa [glueR] using hS0, by simp, alloc_ext _ _, Lib.hid (by simp)⟩
  case round =>
    obtain ⟨k, F, rfl, hk, hS, hF, hy, Hok⟩ := hrel
    have HF := Lib.hid hF
    clear hF
    by_cases hlt : k < un.length
    · obtain ⟨bu, ou, rfl, hbu, hcu⟩ := (hu.toExt hy).atI hlt
      have hmem := Hun.out _ (List.getElem_mem hlt)
      have Ht := Lib.hid (gl_step (va := va) (r := r) (vb := vb) (s := s) hlt)
      have HOK := Lib.hid (fun h => all_step hlt Hok.out h)
      have HFA := Lib.hid (fun h => all_fail (p := okG va r vb s) hlt h)
      have hlk : (glueR (un.take k) va r vb s).length + 1 ≤ 2000000000 := by simp [glueR]; omega
      obtain ⟨v, hv⟩ : ∃ v, un[k] = v := ⟨_, rfl⟩
      rw [hv] at hcu hmem Ht HOK HFA
      obtain ⟨i, hi⟩ : ∃ i, iof 0 v va = i := ⟨_, rfl⟩
      obtain ⟨j, hj⟩ : ∃ j, iof 0 v vb = j := ⟨_, rfl⟩
      have HI := Lib.hid hi
      have HJ := Lib.hid hj
      go_upto_region 7 with (first
        | (go_at_call 108; with_reducible refine (indexOf_any (xs := va) (by omega) (h1.toExt ?_)).mono ?_; (focus (exact (by refine x'z ?_; repeat (with_reducible (first | exact x'a _ _ | exact x'b _ | exact x'c (by assumption) | refine x'd ?_ (by assumption) | refine x'e ?_ _ | refine x'f ?_ _ | refine x'g ?_ | refine x'h ?_ ?_ _ | refine x'i ?_ _ | refine x'j ?_ | refine x'k ?_ _ | refine x'l ?_ _ _ | refine x'm ?_ | assumption | (refine x'n ?_; omega) | omega))))); rintro e w1 ⟨rfl, hx1⟩; rw [HI.out])
        | (go_at_call 108; with_reducible refine (indexOf_any (xs := vb) (by omega) (h3.toExt ?_)).mono ?_; (focus (exact (by refine x'z ?_; repeat (with_reducible (first | exact x'a _ _ | exact x'b _ | exact x'c (by assumption) | refine x'd ?_ (by assumption) | refine x'e ?_ _ | refine x'f ?_ _ | refine x'g ?_ | refine x'h ?_ ?_ _ | refine x'i ?_ _ | refine x'j ?_ | refine x'k ?_ _ | refine x'l ?_ _ _ | refine x'm ?_ | assumption | (refine x'n ?_; omega) | omega))))); rintro e w2 ⟨rfl, hx2⟩; rw [HJ.out]))
      have hy2 : ∃ y, w2 = ext w y := (by refine x'z ?_; repeat (with_reducible (first | exact x'a _ _ | exact x'b _ | exact x'c (by assumption) | refine x'd ?_ (by assumption) | refine x'e ?_ _ | refine x'f ?_ _ | refine x'g ?_ | refine x'h ?_ ?_ _ | refine x'i ?_ _ | refine x'j ?_ | refine x'k ?_ _ | refine x'l ?_ _ _ | refine x'm ?_ | assumption | (refine x'n ?_; omega) | omega)))
      have hS2 := (hS.toExt hx1).toExt hx2
      by_cases ma : v ∈ va
      · obtain ⟨p, hp1, hp2, hp3⟩ := iof_at (r := r) ma
        rw [hi] at hp2
        obtain ⟨br, or, rfl, hbr, hcr⟩ := (h2.toExt hy2).atI' (n := p) (by omega)
        have hp4 : (p : Int) < (r.length : Int) := by omega
        by_cases mb : v ∈ vb
        · obtain ⟨q, hq1, hq2, hq3⟩ := iof_at (r := s) mb
          rw [hj] at hq2
          obtain ⟨bs', os', rfl, hbs, hcs⟩ := (h4.toExt hy2).atI' (n := q) (by omega)
          have hq4 : (q : Int) < (s.length : Int) := by omega
          have hgv : gval va r vb s v = r.getD p 0 := by unfold gval; rw [if_pos ma, hp3]
          have hok : okG va r vb s v = decide (r.getD p 0 = s.getD q 0) := by unfold okG; rw [decide_eq_true ma, decide_eq_true mb, hp3, hq3]; rfl
          obtain ⟨x, hx⟩ : ∃ x, r.getD p 0 = x := ⟨_, rfl⟩
          obtain ⟨z, hz⟩ : ∃ z, s.getD q 0 = z := ⟨_, rfl⟩
          rw [hx] at hcr hgv hok
          rw [hz] at hcs hok
          rw [hgv] at Ht
          rw [hok] at HOK HFA
          subst hp2 hq2
          clear hi hj hv hmem hp3 hq3 hx hz hgv hok ma mb
          by_cases hxz : x = z
          · have hne : (x != z) = false := by simpa using hxz
            have HOK := Lib.hid (HOK.out (by simpa using hxz))
            clear hxz
            refine wp_region_ext (by kernel_rfl) (by kernel_rfl) ?_
            repeat (go_big_quiet_step (fail))
            refine wpQuiet_nil ?_
            rintro _ ⟨zz, rfl⟩
            have hy1 : ∃ y, ext w2 zz = ext w y := trans_ext hy2 ⟨zz, rfl⟩
            have hS1 := hS2.toExt (⟨zz, rfl⟩ : ∃ y, ext w2 zz = ext w2 y)
            go_wp2_with (at_builtin; refine wpList_app1 (E := sI) (d := x) rfl _ _ _ rfl tI rfl rfl rfl (by simp) (fun _ => ⟨rfl, rfl⟩) rfl (by simp [Value.oneCell']) hS1 hlk (by omega) ?_; intro v' w' F' hS' hC' hF')
            exact ⟨⟨k + 1, F', by go_num, by omega, by rw [Ht.out]; exact hS', newer HF.out (size_of_ext hy1) hF', hC'.isExt hy1 HF.out, Lib.hid HOK.out⟩, by simp [intOf]; omega⟩
          · have hne : (x != z) = true := by simpa using hxz
            have HZ := Lib.hid (show glueO un va r vb s = none by unfold glueO; rw [if_neg (HFA.out (by simpa using hxz))])
            clear hxz
            refine wp_region_ext (by kernel_rfl) (by kernel_rfl) ?_
            repeat (go_big_quiet_step (fail))
            refine wpQuiet_nil ?_
            rintro _ ⟨zz, rfl⟩
            have hy1 : ∃ y, ext w2 zz = ext w y := trans_ext hy2 ⟨zz, rfl⟩
            have hS1 := hS2.toExt (⟨zz, rfl⟩ : ∃ y, ext w2 zz = ext w2 y)
            go_wp2
            go_ret2
            exact ⟨_, [], by rw [HZ.out]; rfl, hy1, by rw [HZ.out]; exact SV.nil, by simp⟩
        · have hgv : gval va r vb s v = r.getD p 0 := by unfold gval; rw [if_pos ma, hp3]
          have hok : okG va r vb s v = true := by unfold okG; rw [decide_eq_false mb]; simp
          have HOK := Lib.hid (HOK.out hok)
          obtain ⟨x, hx⟩ : ∃ x, r.getD p 0 = x := ⟨_, rfl⟩
          rw [hx] at hcr hgv
          rw [hgv] at Ht
          rw [iof_none mb] at hj
          subst hp2 hj
          clear hi hv hmem hp3 hx hgv hok ma mb
          refine wp_region_ext (by kernel_rfl) (by kernel_rfl) ?_
          repeat (go_big_quiet_step (fail))
          refine wpQuiet_nil ?_
          rintro _ ⟨zz, rfl⟩
          have hy1 : ∃ y, ext w2 zz = ext w y := trans_ext hy2 ⟨zz, rfl⟩
          have hS1 := hS2.toExt (⟨zz, rfl⟩ : ∃ y, ext w2 zz = ext w2 y)
          go_wp2_with (at_builtin; refine wpList_app1 (E := sI) (d := x) rfl _ _ _ rfl tI rfl rfl rfl (by simp) (fun _ => ⟨rfl, rfl⟩) rfl (by simp [Value.oneCell']) hS1 hlk (by omega) ?_; intro v' w' F' hS' hC' hF')
          exact ⟨⟨k + 1, F', by go_num, by omega, by rw [Ht.out]; exact hS', newer HF.out (size_of_ext hy1) hF', hC'.isExt hy1 HF.out, Lib.hid HOK.out⟩, by simp [intOf]; omega⟩
      · have mb : v ∈ vb := by
          rcases hmem with h | h
          · exact absurd h ma
          · exact h
        obtain ⟨q, hq1, hq2, hq3⟩ := iof_at (r := s) mb
        rw [hj] at hq2
        obtain ⟨bs', os', rfl, hbs, hcs⟩ := (h4.toExt hy2).atI' (n := q) (by omega)
        have hq4 : (q : Int) < (s.length : Int) := by omega
        have hgv : gval va r vb s v = s.getD q 0 := by unfold gval; rw [if_neg ma, hq3]
        have hok : okG va r vb s v = true := by unfold okG; rw [decide_eq_false ma]; simp
        have HOK := Lib.hid (HOK.out hok)
        obtain ⟨x, hx⟩ : ∃ x, s.getD q 0 = x := ⟨_, rfl⟩
        rw [hx] at hcs hgv
        rw [hgv] at Ht
        rw [iof_none ma] at hi
        subst hq2 hi
        clear hj hv hmem hq3 hx hgv hok ma mb
        refine wp_region_ext (by kernel_rfl) (by kernel_rfl) ?_
        repeat (go_big_quiet_step (fail))
        refine wpQuiet_nil ?_
        rintro _ ⟨zz, rfl⟩
        have hy1 : ∃ y, ext w2 zz = ext w y := trans_ext hy2 ⟨zz, rfl⟩
        have hS1 := hS2.toExt (⟨zz, rfl⟩ : ∃ y, ext w2 zz = ext w2 y)
        go_wp2_with (at_builtin; refine wpList_app1 (E := sI) (d := x) rfl _ _ _ rfl tI rfl rfl rfl (by simp) (fun _ => ⟨rfl, rfl⟩) rfl (by simp [Value.oneCell']) hS1 hlk (by omega) ?_; intro v' w' F' hS' hC' hF')
        exact ⟨⟨k + 1, F', by go_num, by omega, by rw [Ht.out]; exact hS', newer HF.out (size_of_ext hy1) hF', hC'.isExt hy1 HF.out, Lib.hid HOK.out⟩, by simp [intOf]; omega⟩
    · have HZ := Lib.hid (show glueO un va r vb s = some (glueR un va r vb s) by
        unfold glueO
        rw [if_pos (by have := Hok.out; rwa [List.take_of_length_le (by omega)] at this)])
      rw [show un.take k = un from List.take_of_length_le (by omega)] at hS
      go_wp2
      go_ret2
      exact ⟨_, F, by rw [HZ.out]; rfl, hy, by rw [HZ.out]; exact hS, HF.out⟩
end Go.Proofs.YtfigcfajkilhiaaGreat
