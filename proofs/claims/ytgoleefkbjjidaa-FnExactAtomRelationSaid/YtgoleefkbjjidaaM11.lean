/- Contracts of functions that the statements reach, joined from several texts: AtomPl, AtomB, AtomBS, BdBd, AtomR. -/
import Derived.Test.YtgoleefkbjjidaaM07
import Derived.Test.YtgoleefkbjjidaaM04
import Derived.Test.YtgoleefkbjjidaaM03
import Derived.Test.YtgoleefkbjjidaaM09
/- The rows of an atom: what the loops over one row come to. No program in it. -/
namespace Go.Proofs.Ytgoleefkbjjidaa
open Go.RowKit

def fitI (xs row : List Int) (k : Nat) : Bool := (List.range k).all fun j => decide (valAt xs row (xs.getD j 0) = row.getD j 0)
def fitS (vars xs row : List Int) (k : Nat) : Bool := (List.range k).all fun j => decide (xs.getD j 0 ∈ vars) && decide (valAt xs row (xs.getD j 0) = row.getD j 0)
theorem fitI_step {xs row : List Int} {k : Nat} : fitI xs row (k + 1) = (fitI xs row k && decide (valAt xs row (xs.getD k 0) = row.getD k 0)) := by
  unfold fitI
  rw [List.range_succ, List.all_append]
  simp
theorem fitS_step {vars xs row : List Int} {k : Nat} : fitS vars xs row (k + 1) = (fitS vars xs row k && (decide (xs.getD k 0 ∈ vars) && decide (valAt xs row (xs.getD k 0) = row.getD k 0))) := by
  unfold fitS
  rw [List.range_succ, List.all_append]
  simp
theorem fitI_all {xs row : List Int} (hl : row.length = xs.length) : fitI xs row xs.length = rowFit xs row := by
  rw [Bool.eq_iff_iff]
  unfold fitI rowFit
  rw [List.all_eq_true, decide_eq_true_eq]
  constructor
  · intro h
    apply List.ext_getElem
    · simp [hl]
    · intro i h1 h2
      have hi : i < xs.length := by simpa using h1
      have := h i (List.mem_range.2 hi)
      rw [decide_eq_true_eq, getDl _ _ hi, getDl _ _ h2] at this
      rw [List.getElem_map]
      exact this
  · intro h j hj
    have hj := List.mem_range.1 hj
    rw [decide_eq_true_eq, getDl _ _ hj, getDl row _ (show j < row.length by omega)]
    have : (xs.map (valAt xs row)).getD j 0 = row.getD j 0 := by rw [h]
    rw [getDl _ _ (show j < (xs.map (valAt xs row)).length by simpa using hj), List.getElem_map, getDl row _ (show j < row.length by omega)] at this
    exact this
theorem fitS_all {vars xs row : List Int} (hl : row.length = xs.length) : fitS vars xs row xs.length = (rowFit xs row && xs.all fun v => decide (v ∈ vars)) := by
  rw [← fitI_all hl, Bool.eq_iff_iff]
  unfold fitI fitS
  simp only [List.all_eq_true, Bool.and_eq_true, decide_eq_true_eq]
  constructor
  · intro h
    refine ⟨fun j hj => (h j hj).2, fun v hv => ?_⟩
    obtain ⟨i, hi, rfl⟩ := List.getElem_of_mem hv
    have := (h i (List.mem_range.2 hi)).1
    rwa [getDl _ _ hi] at this
  · rintro ⟨h1, h2⟩ j hj
    have hj' := List.mem_range.1 hj
    exact ⟨by rw [getDl _ _ hj']; exact h2 _ (List.getElem_mem hj'), h1 j hj⟩
/-- the values of the variables met so far -/
def VOk (xs row L : List Int) (k : Nat) : Prop := L.length = 5 ∧ (fitI xs row k = true → ∀ j, j < k → j < xs.length → L.getD (xs.getD j 0).toNat 0 = valAt xs row (xs.getD j 0))
theorem VOk.step {xs row L : List Int} {k : Nat} (h : VOk xs row L k) (hb : ∀ v ∈ xs, 0 ≤ v ∧ v ≤ 4) (hk : k < xs.length) : VOk xs row (L.set (xs.getD k 0).toNat (row.getD k 0)) (k + 1) := by
  obtain ⟨h1, h2⟩ := h
  refine ⟨by simpa using h1, fun hf j hj hjl => ?_⟩
  rw [fitI_step, Bool.and_eq_true, decide_eq_true_eq] at hf
  have bk := hb _ (List.getElem_mem hk)
  have bj := hb _ (List.getElem_mem hjl)
  rw [getDl _ _ hk] at hf ⊢
  rw [getDl _ _ hjl]
  by_cases e : xs[k].toNat = xs[j].toNat
  · have e2 : xs[j] = xs[k] := by omega
    rw [e2, getD_set_self (by omega)]
    exact hf.2.symm
  · rw [getD_set_ne e]
    have hjk : j < k := by
      rcases Nat.lt_or_eq_of_le (Nat.le_of_lt_succ hj) with k1 | k1
      · exact k1
      · subst k1; exact absurd rfl e
    have := h2 hf.1 j hjk hjl
    rwa [getDl _ _ hjl] at this
theorem VOk.done {xs row L vars : List Int} (h : VOk xs row L xs.length) (hf : fitI xs row xs.length = true) (hv : ∀ v ∈ vars, v ∈ xs) : pickL L vars = vars.map (valAt xs row) := by
  unfold pickL
  refine List.map_congr_left fun v hvm => ?_
  obtain ⟨i, hi, rfl⟩ := List.getElem_of_mem (hv v hvm)
  have := h.2 hf i hi hi
  rwa [getDl _ _ hi] at this
/-- the rows that fit, as rows over the variables -/
def fitR (xs : List Int) (rows : List (List Int)) : List (List Int) := (rows.filter (rowFit xs)).map fun row => (avars 5 0 xs).map (valAt xs row)
theorem fitR_step {xs : List Int} {rows : List (List Int)} {k : Nat} (h : k < rows.length) : fitR xs (rows.take (k + 1)) = fitR xs (rows.take k) ++ (if rowFit xs rows[k] = true then [(avars 5 0 xs).map (valAt xs rows[k])] else []) := by
  unfold fitR
  rw [List.take_succ_eq_append_getElem h, List.filter_append, List.filter_cons, List.filter_nil, List.map_append]
  by_cases h1 : rowFit xs rows[k] = true <;> simp [h1]
theorem fitR_len {xs : List Int} {rows : List (List Int)} {k : Nat} : (fitR xs (rows.take k)).length ≤ k := by
  unfold fitR
  rw [List.length_map]
  exact Nat.le_trans (List.length_filter_le _ _) (by simp; omega)
theorem fitR_el {xs : List Int} {rows : List (List Int)} : ∀ x ∈ fitR xs rows, x.length ≤ 5 := fun x hx => by
  unfold fitR at hx
  obtain ⟨r, _, rfl⟩ := List.mem_map.1 hx
  rw [List.length_map]
  exact avars_length 5 0 xs
theorem atomBd_yes {d : Dbd} {a : At} (h1 : atFit d a = true) (h2 : ∀ v ∈ a.2, 0 ≤ v ∧ v ≤ 4) : atomBd d a = (((avars 5 0 a.2).length : Int), sortR (fitR a.2 (relOf d a).2)) := by
  unfold atomBd fitR
  rw [if_pos ⟨h1, h2⟩]
theorem atomBd_no {d : Dbd} {a : At} (h : ¬ (atFit d a = true ∧ ∀ v ∈ a.2, 0 ≤ v ∧ v ≤ 4)) : atomBd d a = (((avars 5 0 a.2).length : Int), []) := by
  unfold atomBd
  rw [if_neg h]
/-- the reference's rows: none where a variable is out of range -/
def fitRS (xs : List Int) (rows : List (List Int)) : List (List Int) := (rows.filter fun row => rowFit xs row && xs.all fun v => decide (v ∈ avars 5 0 xs)).map fun row => (avars 5 0 xs).map (valAt xs row)
theorem fitRS_step {xs : List Int} {rows : List (List Int)} {k : Nat} (h : k < rows.length) : fitRS xs (rows.take (k + 1)) = fitRS xs (rows.take k) ++ (if (rowFit xs rows[k] && xs.all fun v => decide (v ∈ avars 5 0 xs)) = true then [(avars 5 0 xs).map (valAt xs rows[k])] else []) := by
  unfold fitRS
  rw [List.take_succ_eq_append_getElem h, List.filter_append, List.filter_cons, List.filter_nil, List.map_append]
  by_cases h1 : (rowFit xs rows[k] && xs.all fun v => decide (v ∈ avars 5 0 xs)) = true <;> simp [h1]
theorem fitRS_len {xs : List Int} {rows : List (List Int)} {k : Nat} : (fitRS xs (rows.take k)).length ≤ k := by
  unfold fitRS
  rw [List.length_map]
  exact Nat.le_trans (List.length_filter_le _ _) (by simp; omega)
theorem fitRS_el {xs : List Int} {rows : List (List Int)} : ∀ x ∈ fitRS xs rows, x.length = (avars 5 0 xs).length := fun x hx => by
  unfold fitRS at hx
  obtain ⟨r, _, rfl⟩ := List.mem_map.1 hx
  rw [List.length_map]
theorem fitRS_eq {d : Dbd} {a : At} (h : atFit d a = true) : newR ((avars 5 0 a.2).length : Int) (fitRS a.2 (relOf d a).2) = some (atomBd d a) := by
  obtain ⟨_, hT, hl⟩ := atFit_some h
  have hcnt := hT.cnt
  have h5 := avars_length 5 0 a.2
  by_cases hc : ∀ v ∈ a.2, 0 ≤ v ∧ v ≤ 4
  · have e : fitRS a.2 (relOf d a).2 = fitR a.2 (relOf d a).2 := by
      unfold fitRS fitR
      have : (a.2.all fun v => decide (v ∈ avars 5 0 a.2)) = true := by
        rw [List.all_eq_true]
        intro v hv
        rw [decide_eq_true_eq, mem_av5 hc]
        exact hv
      simp only [this, Bool.and_true]
    rw [e, atomBd_yes h hc]
    have hok := atomBd_ok (d := d) (a := a)
    unfold atomVR at hok
    rw [atomBd_yes h hc] at hok
    refine newR_some (rowsIn_iff.2 fun r hr => ⟨?_, hok.rv r (mem_sortR.2 hr)⟩) (by omega) (by omega) hok.cnt
    have := hok.rl r (mem_sortR.2 hr)
    simp only at this
    rw [this]
  · have e : fitRS a.2 (relOf d a).2 = [] := by
      unfold fitRS
      have : (a.2.all fun v => decide (v ∈ avars 5 0 a.2)) = false := by
        rw [Bool.eq_false_iff]
        intro h9
        rw [List.all_eq_true] at h9
        refine hc fun v hv => ?_
        have := (mem_avars 5 0 _ _).1 (of_decide_eq_true (h9 v hv))
        omega
      simp only [this, Bool.and_false]
      simp
    rw [e, atomBd_no (fun k => hc k.2)]
    exact newR_some (rowsIn_iff.2 (by simp)) (by omega) (by omega) (by simp [sortR])
end Go.Proofs.Ytgoleefkbjjidaa

/- The bindings of an atom: the program's way. -/
namespace Go.Proofs.Ytgoleefkbjjidaa
open Go.RowKit

/-- a relation handed back, newer than the call -/
def RelRes (d : Rd) (w : World) (e : Ending) (w' : World) : Prop := ∃ v0 v1 F, e = .returned (.agg #[v0, v1]) ∧ (∃ y, w' = ext w y) ∧ sRel w' [v0, v1] d F ∧ F.Nodup ∧ ∀ b ∈ F, w.heap.size ≤ b
theorem atomBd_non {d : Dbd} {a : At} (h : lookD d a.1 = none) : atomBd d a = (((avars 5 0 a.2).length : Int), []) := atomBd_no (fun k => by rw [atFit_look h] at k; cases k.1)
theorem atomBd_ar {d : Dbd} {a : At} {r : Rd} (h : lookD d a.1 = some r) (hr : r.1 ≠ (a.2.length : Int)) : atomBd d a = (((avars 5 0 a.2).length : Int), []) := atomBd_no (fun k => by rw [atFit_look h] at k; exact hr (of_decide_eq_true k.1))
theorem atomBd_out {d : Dbd} {a : At} (h : fitsC 5 a.2 = false) (h5 : a.2.length ≤ 5) : atomBd d a = (((avars 5 0 a.2).length : Int), []) := atomBd_no (fun k => by
  have : fitsC 5 a.2 = true := fitsC_iff.2 ⟨h5, fun v hv => by have := k.2 v hv; omega⟩
  rw [h] at this; cases this)
theorem look_ok {d : Dbd} {a : At} {r : Rd} (h : lookD d a.1 = some r) (hr : r.1 = (a.2.length : Int)) : atFit d a = true ∧ relOf d a = r ∧ a.2.length ≤ 5 ∧ r.2.length ≤ 16 ∧ ∀ x ∈ r.2, x.length = a.2.length := by
  have hf : atFit d a = true := by rw [atFit_look h]; exact decide_eq_true hr
  have hro : relOf d a = r := by unfold relOf; rw [h]; rfl
  have hT := (atFit_some hf).2.1
  rw [hro] at hT
  have hb := rowsB_iff.1 hT.rel
  simp only at hb
  exact ⟨hf, hro, by omega, hT.cnt, fun x hx => by have := (hb.2.2.2.1 x hx).1; omega⟩
theorem pick_n {A A' : Option Addr} {c c' n : Nat} {row cols : List Int} {w : World} (hn : row.length = n) (h1 : RI w A row) (hc : cols.length ≤ 1000000000) (h2 : RI w A' cols) (hb : ∀ v ∈ cols, 0 ≤ v ∧ v < (n : Int)) :
    Calls Try.prog 107 #[.slice A n c, .slice A' cols.length c'] w fun e w' => ∃ v F, e = .returned v ∧ (∃ y, w' = ext w y) ∧ SV 3 1 sI w' v (pickL row cols) F ∧ ∀ b ∈ F, w.heap.size ≤ b := by
  subst hn
  exact pick_any h1 hc h2 hb
set_option maxRecDepth 100000 in
set_option maxHeartbeats 16000000 in
theorem AtomBindings_any {A B : Option Addr} {c e : Nat} {d : Dbd} {a : At} {w : World} (hd : WDb d) (h1 : RV 3 vTb w A d) (hx : a.2.length ≤ 1000000000) (h2 : RI w B a.2) :
    Calls Try.prog 50 #[.agg #[.slice A d.length c], .agg #[.string a.1, .slice B a.2.length e]] w (RelRes (atomBd d a) w) := by
  have HD := Lib.hid hd
  have hav5 := avars_length 5 0 a.2
  have HZ1 := Lib.hid (fun h => atomBd_non (d := d) (a := a) h)
  have HZ2 := Lib.hid (fun r h hr => atomBd_ar (d := d) (a := a) (r := r) h hr)
  have HZ3 := Lib.hid (fun h h5 => atomBd_out (d := d) (a := a) h h5)
  have HZ4 := Lib.hid (atomBd_yes (d := d) (a := a))
  have HAV := Lib.hid (fun v (hv : v ∈ avars 5 0 a.2) => (mem_avars 5 0 _ v).1 hv)
  have HFS := Lib.hid (fun rows k (hk : k < rows.length) => fitR_step (xs := a.2) (rows := rows) (k := k) hk)
  obtain ⟨o, ho⟩ : ∃ o, lookD d a.1 = o := ⟨_, rfl⟩
  have HO := Lib.hid ho
  clear hd ho
  go_enter Try.func50, Try.ntmps50
  go_upto_region 1 with fail
  refine wp_name ?_
  intro W hW
  have xW : ∃ y, W = ext w y := by rw [hW.out]; exact (by refine Chg.isExt (F := []) ?_ (refl_ext _) (by simp); repeat (with_reducible (first | exact Chg.refl _ _ | exact Nat.le_refl _ | exact Chg.ofExt (by assumption) | refine Chg.trans0 ?_ (by assumption) | refine Chg.extS ?_ _ | refine Chg.alloc ?_ _ | refine Chg.drew ?_ | refine Chg.setCellE ?_ ?_ _ | refine le_addk ?_ _ | refine le_ext ?_ | refine le_alloc ?_ _ | refine le_setC ?_ _ _ | refine le_drew ?_ | assumption | (refine Nat.le_of_lt ?_; omega) | omega)))
  have PW : BoxAt W w.heap.size #[.slice A d.length c] := by rw [hW.out]; exact (by repeat (with_reducible (first | assumption | exact BoxAt.new _ _ _ | apply BoxAt.set10 | apply BoxAt.set2 | refine BoxAt.set2' ?_ (by omega) | apply BoxAt.setP0 | apply BoxAt.setP1 | refine BoxAt.setO ?_ (by omega) | refine BoxAt.alloc ?_ _ | refine BoxAt.drew ?_ | refine BoxAt.toExt ?_ (by assumption))))
  have QW : BoxAt W (w.heap.size + 1) #[.string a.1, .slice B a.2.length e] := by rw [hW.out]; refine ⟨?_, fun j => ?_, fun j => ?_⟩ <;> go_simp
  have RW : BoxAt W (w.heap.size + 1 + 1) #[.int .i64 0, .slice none 0 0] := by rw [hW.out]; refine ⟨?_, fun j => ?_, fun j => ?_⟩ <;> go_simp
  obtain ⟨lq, q0, q1, fq⟩ := bx2 QW
  clear hW
  go_wp2_with fail
  refine (AtomVariables_any (by omega) (h2.toExt xW)).mono ?_
  rintro e w1 ⟨v1, F1, rfl, hx1, hSv, hFv⟩
  obtain ⟨Av, cv, rfl, _, _, rv⟩ := hSv.view sI_v
  obtain ⟨vars, hvars⟩ : ∃ v, avars 5 0 a.2 = v := ⟨_, rfl⟩
  have HVR := Lib.hid hvars
  rw [hvars] at rv hav5 HZ1 HZ2 HZ3 HZ4 HAV HFS ⊢
  obtain ⟨n, hn⟩ : ∃ n : Int, (vars.length : Int) = n := ⟨_, rfl⟩
  have HNN := Lib.hid hn
  rw [hn] at HZ1 HZ2 HZ3 HZ4
  have P1 := PW.toExt hx1
  have Q1 := QW.toExt hx1
  have R1 := RW.toExt hx1
  have xw1 := trans_ext xW hx1
  obtain ⟨lp1, p10, fp1⟩ := bx1 P1
  obtain ⟨lq1, q10, q11, fq1⟩ := bx2 Q1
  clear lq q0 q1 fq PW QW RW hSv hFv hvars
  go_upto_region 3 with fail
  refine wp_name ?_
  intro w2 hw2
  have x12 : ∃ y, w2 = ext w1 y := by rw [hw2.out]; exact (by refine Chg.isExt (F := []) ?_ (refl_ext _) (by simp); repeat (with_reducible (first | exact Chg.refl _ _ | exact Nat.le_refl _ | exact Chg.ofExt (by assumption) | refine Chg.trans0 ?_ (by assumption) | refine Chg.extS ?_ _ | refine Chg.alloc ?_ _ | refine Chg.drew ?_ | refine Chg.setCellE ?_ ?_ _ | refine le_addk ?_ _ | refine le_ext ?_ | refine le_alloc ?_ _ | refine le_setC ?_ _ _ | refine le_drew ?_ | assumption | (refine Nat.le_of_lt ?_; omega) | omega)))
  have O2 : BoxAt w2 w1.heap.size #[.int .i64 n, .slice none 0 0] := by rw [hw2.out, ← HNN.out]; exact (by repeat (with_reducible (first | assumption | exact BoxAt.new _ _ _ | apply BoxAt.set2 | refine BoxAt.set2' ?_ (by omega) | apply BoxAt.setP0 | apply BoxAt.setP1 | refine BoxAt.setO ?_ (by omega) | refine BoxAt.alloc ?_ _ | refine BoxAt.drew ?_ | refine BoxAt.toExt ?_ (by assumption))))
  obtain ⟨bO, qO⟩ : ∃ b, w1.heap.size = b := ⟨_, rfl⟩
  have hbO : w.heap.size + 1 + 1 < bO := by have := R1.1; omega
  rw [qO] at O2 ⊢
  have P2 := P1.toExt x12
  have Q2 := Q1.toExt x12
  have R2 := R1.toExt x12
  have xw2 := trans_ext xw1 x12
  have rv2 := rv.toExt x12
  obtain ⟨lp2, p20, fp2⟩ := bx1 P2
  obtain ⟨lq2, q20, q21, fq2⟩ := bx2 Q2
  clear hw2 qO lp1 p10 fp1 lq1 q10 q11 fq1 P1 Q1 R1 hn rv
  go_upto_region 4 with (go_at_call 103; refine (LookupRelation_any HD.out (h1.toExt xw2)).mono ?_; rw [HO.out]; rintro e w3 ⟨u0, u1, F3, rfl, hx3, hS3, hN3, hF3⟩; obtain ⟨A3, c3, rfl, rfl, hI3⟩ := sRel_form hS3)
  refine wp_name ?_
  intro w4 hw4
  have x34 : ∃ y, w4 = ext w3 y := by rw [hw4.out]; exact (by refine Chg.isExt (F := []) ?_ (refl_ext _) (by simp); repeat (with_reducible (first | exact Chg.refl _ _ | exact Nat.le_refl _ | exact Chg.ofExt (by assumption) | refine Chg.trans0 ?_ (by assumption) | refine Chg.extS ?_ _ | refine Chg.alloc ?_ _ | refine Chg.drew ?_ | refine Chg.setCellE ?_ ?_ _ | refine le_addk ?_ _ | refine le_ext ?_ | refine le_alloc ?_ _ | refine le_setC ?_ _ _ | refine le_drew ?_ | assumption | (refine Nat.le_of_lt ?_; omega) | omega)))
  have X4 : BoxAt w4 w3.heap.size #[.int .i64 (o.getD (0, [])).1, .slice A3 (o.getD (0, [])).2.length c3] := by rw [hw4.out]; exact (by repeat (with_reducible (first | assumption | exact BoxAt.new _ _ _ | apply BoxAt.set2 | refine BoxAt.set2' ?_ (by omega) | apply BoxAt.setP0 | apply BoxAt.setP1 | refine BoxAt.setO ?_ (by omega) | refine BoxAt.alloc ?_ _ | refine BoxAt.drew ?_ | refine BoxAt.toExt ?_ (by assumption))))
  have x24 := trans_ext hx3 x34
  have xw4 := trans_ext xw2 x24
  have O4 := O2.toExt x24
  have Q4 := Q2.toExt x24
  have R4 := R2.toExt x24
  have rv4 := rv2.toExt x24
  have rk4 : RII w4 A3 (o.getD (0, [])).2 := ((vII_get (sII_v _ _ _ hI3)).2).toExt x34
  obtain ⟨lo4, o40, o41, fo4⟩ := bx2 O4
  obtain ⟨lx4, x40, x41, fx4⟩ := bx2 X4
  obtain ⟨lq4, q40, q41, fq4⟩ := bx2 Q4
  obtain ⟨lr4, r40, r41, fr4⟩ := bx2 R4
  clear hw4 hS3 hI3 hN3 hF3 lp2 p20 fp2 lq2 q20 q21 fq2 P2 Q2 R2 O2 rv2 X4
  cases o with
  | none =>
    have HZ := Lib.hid (HZ1.out HO.out)
    go_wp2_with fail
    refine bodyPost_ret (v := .agg #[.int .i64 n, .slice none 0 0]) (by simp [results, Try.results50, go_sem, *]) rfl ⟨_, _, [], rfl, (by refine Chg.isExt (F := []) ?_ (refl_ext _) (by simp); repeat (with_reducible (first | exact Chg.refl _ _ | exact Nat.le_refl _ | exact Chg.ofExt (by assumption) | refine Chg.trans0 ?_ (by assumption) | refine Chg.extS ?_ _ | refine Chg.alloc ?_ _ | refine Chg.drew ?_ | refine Chg.setCellE ?_ ?_ _ | refine le_addk ?_ _ | refine le_ext ?_ | refine le_alloc ?_ _ | refine le_setC ?_ _ _ | refine le_drew ?_ | assumption | (refine Nat.le_of_lt ?_; omega) | omega))), ?_, by simp, by simp⟩
    rw [HZ.out]
    exact sRel_mk (F := []) ⟨_, rfl, SV.nil⟩
  | some r =>
    simp only [Option.getD_some] at x40 x41 rk4
    have h2r := h2.toExt xw4
    by_cases hr : r.1 = (a.2.length : Int)
    · have hne : (r.1 != (a.2.length : Int)) = false := by simpa using hr
      obtain ⟨k1, k2, k3, k4, k5⟩ := look_ok HO.out hr
      have HL5 := Lib.hid k5
      have HF1 := Lib.hid k1
      have HF2 := Lib.hid k2
      obtain ⟨t, ht⟩ : ∃ t, fitsC 5 a.2 = t := ⟨_, rfl⟩
      have HT := Lib.hid ht
      have hx9 : a.2.length ≤ 1000000000 := by omega
      cases t with
      | false =>
        have HZ := Lib.hid (HZ3.out ht k3)
        clear hr k1 k2 k5 ht
        go_wp2_with (go_at_call 110; refine (columnsFit_any (a := 5) (by omega) (by omega) hx9 h2r).mono ?_; rintro e w5 ⟨rfl, rfl⟩; rw [HT.out])
        refine bodyPost_ret (v := .agg #[.int .i64 n, .slice none 0 0]) (by simp [results, Try.results50, go_sem, *]) rfl ⟨_, _, [], rfl, (by refine Chg.isExt (F := []) ?_ (refl_ext _) (by simp); repeat (with_reducible (first | exact Chg.refl _ _ | exact Nat.le_refl _ | exact Chg.ofExt (by assumption) | refine Chg.trans0 ?_ (by assumption) | refine Chg.extS ?_ _ | refine Chg.alloc ?_ _ | refine Chg.drew ?_ | refine Chg.setCellE ?_ ?_ _ | refine le_addk ?_ _ | refine le_ext ?_ | refine le_alloc ?_ _ | refine le_setC ?_ _ _ | refine le_drew ?_ | assumption | (refine Nat.le_of_lt ?_; omega) | omega))), ?_, by simp, by simp⟩
        rw [HZ.out]
        exact sRel_mk (F := []) ⟨_, rfl, SV.nil⟩
      | true =>
        have hb04 : ∀ v ∈ a.2, 0 ≤ v ∧ v ≤ 4 := fun v hv => by have := (fitsC_iff.1 ht).2 v hv; omega
        have HB4 := Lib.hid hb04
        have HZ := Lib.hid (show atomBd d a = (n, sortR (fitR a.2 r.2)) by rw [HZ4.out HF1.out hb04, k2])
        have HVC : Hid (∀ v ∈ vars, 0 ≤ v ∧ v < ((5 : Nat) : Int)) := Lib.hid (fun v hv => by have := HAV.out v hv; omega)
        have HVM : Hid (∀ v ∈ vars, v ∈ a.2) := Lib.hid (fun v hv => (HAV.out v hv).2.2)
        clear hr k1 k2 k5 ht hb04
        go_wp2_with (go_at_call 110; refine (columnsFit_any (a := 5) (by omega) (by omega) hx9 h2r).mono ?_; rintro e w5 ⟨rfl, rfl⟩; rw [HT.out])
        clear lo4 o40 o41 fo4 lx4 x40 x41 fx4 lq4 q40 q41 fq4 lr4 r40 r41 fr4 h2r
        go_loopw [9, 49] (fun v i wr => ∃ (k : Nat) (F : List Nat), i = .int .i64 k ∧ k ≤ r.2.length ∧ SV 22 1 sRow wr v (fitR a.2 (r.2.take k)) F ∧ Hid F.Nodup ∧ Hid (∀ x ∈ F, w4.heap.size ≤ x) ∧ ∃ y, wr = ext w4 y) (fun _ i _ => r.2.length - (intOf i).toNat)
        case atStart => exact ⟨0, [], rfl, by omega, by simpa [fitR] using SV.nil, Lib.hid (by simp), Lib.hid (by simp), refl_ext w4⟩
        case round =>
          obtain ⟨k, F, rfl, hk, hS, HN, HF, hy⟩ := hrel
          by_cases hlt : k < r.2.length
          · obtain ⟨br, orr, A5, c5, rfl, hbr, hcr, hvr⟩ := (rk4.toExt hy).atV hlt
            have lr := HL5.out _ (List.getElem_mem hlt)
            have hst := HFS.out r.2 k hlt
            have hlk := fitR_len (xs := a.2) (rows := r.2) (k := k)
            obtain ⟨row, hrow⟩ : ∃ x, r.2[k] = x := ⟨_, rfl⟩
            rw [hrow] at hcr hvr lr hst
            obtain ⟨fl, hfl⟩ : ∃ l, fitR a.2 (r.2.take k) = l := ⟨_, rfl⟩
            rw [hfl] at hst hlk hS
            have HST := Lib.hid hst
            have HS := Lib.hid hS
            have HSlt := Lib.hid hS.lt
            have HLR := Lib.hid lr
            have HVR2 := Lib.hid hvr
            have HFA := Lib.hid (fitI_all lr)
            clear hrow hfl lr hst hS hvr
            go_wp2_with (at_make; refine wpList_makeS (E := sI) (d := 0) (n := 5) _ rfl _ _ _ rfl tI rfl rfl (fun _ => ⟨rfl, rfl⟩) (by omega) (by omega) ?_; intro wm hSm hxm hgm; obtain ⟨lq5, q50, q51, fq5⟩ := bx2 (Q4.toExt (trans_ext hy hxm)))
            obtain ⟨g, hg⟩ : ∃ g, wr.heap.size = g := ⟨_, rfl⟩
            have hgr : wr.heap.size ≤ g := by omega
            rw [hg] at hSm hgm ⊢
            clear lq5 q50 q51 fq5 hg hcr hbr
            obtain ⟨wo, rfl⟩ : ∃ wo : World, wo = wr := ⟨_, rfl⟩
            go_loopw [13, 57] (fun f i wq => ∃ (j : Nat) (L : List Int), i = .int .i64 j ∧ j ≤ a.2.length ∧ f = .bool (fitI a.2 row j) ∧ SV 3 1 sI wq (.slice (some ⟨g, 0, none⟩) 5 5) L [g] ∧ Hid (VOk a.2 row L j) ∧ Chg [g] wm wq) (fun _ i _ => a.2.length - (intOf i).toNat)
            case atStart => exact ⟨0, _, rfl, by omega, rfl, hSm, Lib.hid ⟨by simp, fun _ j hj => by omega⟩, Chg.refl _ _⟩
            case round =>
              obtain ⟨j, L, rfl, hj, rfl, hSL, HVO, hC⟩ := hrel
              have hyo : ∃ y, wr = ext wo y := hC.isExt hxm (by simpa using hgr)
              have hy4 := trans_ext hy hyo
              have Q5 := Q4.toExt hy4
              obtain ⟨lq5, q50, q51, fq5⟩ := bx2 Q5
              by_cases hlt2 : j < a.2.length
              · have hw5 := trans_ext xw4 hy4
                obtain ⟨bv, ov, rfl, hbv, hcv⟩ := (h2.toExt hw5).atI' (n := j) hlt2
                have hb5 := HB4.out _ (List.getElem_mem hlt2)
                have hmem := List.getElem_mem hlt2
                have HVS := Lib.hid (HVO.out.step HB4.out hlt2)
                have hfs := fitI_step (xs := a.2) (row := row) (k := j)
                obtain ⟨br', or', rfl, hbr', hcr'⟩ := (HVR2.out.toExt hyo).atI' (n := j) (by rw [HLR.out]; exact hlt2)
                rw [← getDl a.2 0 hlt2] at hb5 hmem
                obtain ⟨p, hp1, hp2, hp3⟩ := iof_at (r := row) hmem
                obtain ⟨_, _, e9, _, hcp⟩ := (HVR2.out.toExt hyo).atI' (n := p) (by rw [HLR.out]; exact hp1)
                injection e9 with e9
                injection e9 with e9 e10 _
                subst e9 e10
                rw [hp3] at hfs
                obtain ⟨v, hv⟩ : ∃ v, a.2.getD j 0 = v := ⟨_, rfl⟩
                rw [hv] at hcv hb5 hp2 HVS
                obtain ⟨m, rfl⟩ := Int.eq_ofNat_of_zero_le hb5.1
                rw [Int.toNat_natCast] at HVS
                have hm5 : m < 5 := by omega
                have HI := Lib.hid hp2
                have hpl : (p : Int) < (row.length : Int) := by rw [HLR.out]; omega
                have hjl : (j : Int) < (row.length : Int) := by rw [HLR.out]; omega
                obtain ⟨x, hx9'⟩ : ∃ x, row.getD p 0 = x := ⟨_, rfl⟩
                obtain ⟨z, hz9⟩ : ∃ z, row.getD j 0 = z := ⟨_, rfl⟩
                rw [hx9'] at hcp hfs
                rw [hz9] at hcr' hfs HVS
                obtain ⟨fj, hfj⟩ : ∃ f, fitI a.2 row j = f := ⟨_, rfl⟩
                rw [hfj] at hfs ⊢
                have HFJ := Lib.hid hfs
                have HSL := Lib.hid hSL
                have h2r := h2.toExt hw5
                clear hv hb5 hmem hp2 hp3 hx9' hz9 hfj hfs
                go_upto_region 16 with (go_at_call 111; refine (indexOf_any hx9 h2r).mono ?_; rintro e w6 ⟨rfl, hx6⟩; rw [HI.out])
                have hc6 := cellW hx6 hbr' hcp
                have hc6' := cellW hx6 hbr' hcr'
                have hb6 := ltW hx6 hbr'
                have hS6 := HSL.out.toExt hx6
                clear hcp hcr' hbr' hcv hbv lq5 q50 q51 fq5
                by_cases hxz : x = z
                · have hbe : (x == z) = true := by simpa using hxz
                  have HFN := Lib.hid (show fitI a.2 row (j + 1) = fj by rw [HFJ.out, decide_eq_true hxz, Bool.and_true])
                  cases fj
                  all_goals
                    refine wp_region_ext (by kernel_rfl) (by kernel_rfl) ?_
                    repeat (go_big_quiet_step (fail))
                    refine wpQuiet_nil ?_
                    rintro _ ⟨zz, rfl⟩
                    obtain ⟨wz, hwz⟩ : ∃ wz, ext w6 zz = wz := ⟨_, rfl⟩
                    rw [hwz]
                    have x6z : ∃ y, wz = ext w6 y := ⟨zz, hwz.symm⟩
                    have hc7 := cellW x6z hb6 hc6'
                    have hb7 := ltW x6z hb6
                    have hS7 := hS6.toExt x6z
                    have hcell := hS7.cell (by have := HVO.out.1; omega) (j := m) (by omega)
                    obtain ⟨⟨u9, hu9⟩, hf9, hg9⟩ := hcell
                    obtain ⟨s1, s2⟩ := hS7.set1 (by have := HVO.out.1; omega) (k := m) hm5 (u := .int .i64 z) (d := z) (fun _ => ⟨rfl, rfl⟩)
                    have HS1 := Lib.hid s1
                    have HC1 := Lib.hid (((hC.trans0 hx6).trans0 x6z).trans s2 (fun y hy => .inl hy))
                    clear hwz s1 s2 hS7 hc6 hc6' hb6
                    go_wp2
                    exact ⟨⟨j + 1, _, by go_num, by omega, by rw [HFN.out], HS1.out, HVS, HC1.out⟩, by simp [intOf]; omega⟩
                · have hbe : (x == z) = false := by simpa using hxz
                  have HFN := Lib.hid (show fitI a.2 row (j + 1) = false by rw [HFJ.out, decide_eq_false hxz, Bool.and_false])
                  cases fj
                  all_goals
                    refine wp_region_ext (by kernel_rfl) (by kernel_rfl) ?_
                    repeat (go_big_quiet_step (fail))
                    refine wpQuiet_nil ?_
                    rintro _ ⟨zz, rfl⟩
                    obtain ⟨wz, hwz⟩ : ∃ wz, ext w6 zz = wz := ⟨_, rfl⟩
                    rw [hwz]
                    have x6z : ∃ y, wz = ext w6 y := ⟨zz, hwz.symm⟩
                    have hc7 := cellW x6z hb6 hc6'
                    have hb7 := ltW x6z hb6
                    have hS7 := hS6.toExt x6z
                    have hcell := hS7.cell (by have := HVO.out.1; omega) (j := m) (by omega)
                    obtain ⟨⟨u9, hu9⟩, hf9, hg9⟩ := hcell
                    obtain ⟨s1, s2⟩ := hS7.set1 (by have := HVO.out.1; omega) (k := m) hm5 (u := .int .i64 z) (d := z) (fun _ => ⟨rfl, rfl⟩)
                    have HS1 := Lib.hid s1
                    have HC1 := Lib.hid (((hC.trans0 hx6).trans0 x6z).trans s2 (fun y hy => .inl hy))
                    clear hwz s1 s2 hS7 hc6 hc6' hb6
                    go_wp2
                    exact ⟨⟨j + 1, _, by go_num, by omega, by rw [HFN.out], HS1.out, HVS, HC1.out⟩, by simp [intOf]; omega⟩
              · obtain rfl : j = a.2.length := by omega
                rw [HFA.out]
                have HVD := Lib.hid (fun (h : rowFit a.2 row = true) => HVO.out.done (vars := vars) (by rw [HFA.out]; exact h) HVM.out)
                have hL5 : L.length = 5 := HVO.out.1
                have HL5' := Lib.hid hL5
                obtain ⟨t, ht⟩ : ∃ t, rowFit a.2 row = t := ⟨_, rfl⟩
                rw [ht] at HST HVD ⊢
                have hSo := HS.out.toExt hyo
                have hy4' := trans_ext hy hyo
                clear ht hL5 lq5 q50 q51 fq5
                cases t with
                | false =>
                  have HK := Lib.hid (show fitR a.2 (r.2.take (k + 1)) = fl by rw [HST.out]; simp)
                  go_wp2
                  exact ⟨⟨k + 1, F, by go_num, by omega, by rw [HK.out]; exact hSo, HN, HF, hy4'⟩, by simp [intOf]; omega⟩
                | true =>
                  obtain ⟨nr, hnr⟩ : ∃ l, vars.map (valAt a.2 row) = l := ⟨_, rfl⟩
                  have HPK := Lib.hid (show pickL L vars = nr by rw [HVD.out rfl, hnr])
                  have HK := Lib.hid (show fitR a.2 (r.2.take (k + 1)) = fl ++ [nr] by rw [HST.out, if_pos rfl, hnr])
                  have hrL := hSL.toView sI_v
                  have hrv := rv4.toExt hy4'
                  have hFl : ∀ b ∈ F, b < wr.heap.size := fun b hb => Nat.lt_of_lt_of_le (HSlt.out b hb) (size_of_ext hyo)
                  have HFl := Lib.hid hFl
                  have hvl : vars.length ≤ 1000000000 := by omega
                  have hlk2 : fl.length + 1 ≤ 2000000000 := by omega
                  clear hnr hFl
                  go_wp2_with (first
                    | (go_at_call 107; refine (pick_n HL5'.out hrL hvl hrv HVC.out).mono ?_; rw [HPK.out]; rintro e w7 ⟨v7, F7, rfl, hx7, hS7, hF7⟩; obtain ⟨A7, c7, rfl, _, _⟩ := hS7.form; have hN3 := nodup_more HN.out hS7.nodup HFl.out hF7; have hz7 := size_of_ext hx7)
                    | (at_builtin; refine wpList_appN (E := sRow) (d := nr) (G := F7) rfl _ _ _ rfl tIIr rfl rfl rfl (by simp) ⟨_, rfl, hS7⟩ rfl (by simp [Value.oneCell']) (hSo.toExt hx7) hN3 hlk2 (by omega) ?_; intro v' w' F' hS' hC' hN' hF'))
                  refine ⟨⟨k + 1, F', by go_num, by omega, by rw [HK.out]; exact hS', Lib.hid hN', Lib.hid (fun b hb => ?_), hC'.isExt (trans_ext hy4' hx7) HF.out⟩, by simp [intOf]; omega⟩
                  have hzw := size_of_ext hy4'
                  rcases hF' b hb with h | h | h
                  · exact HF.out b h
                  · have := hF7 b h; omega
                  · omega
          · obtain rfl : k = r.2.length := by omega
            rw [List.take_of_length_le (Nat.le_refl _)] at hS
            have hlk := fitR_len (xs := a.2) (rows := r.2) (k := r.2.length)
            rw [List.take_of_length_le (Nat.le_refl _)] at hlk
            have HLE := Lib.hid (fun x (hx : x ∈ fitR a.2 r.2) => show x.length ≤ 1000000000 from Nat.le_trans (fitR_el x hx) (by omega))
            obtain ⟨fl, hfl⟩ : ∃ l, fitR a.2 r.2 = l := ⟨_, rfl⟩
            rw [hfl] at hS hlk HLE HZ
            obtain ⟨A7, c7, rfl, hc7, _, rv7⟩ := hS.view (V := vSl 1 vI) (sSl_v sI_v)
            obtain ⟨sr, hsr⟩ : ∃ s, sortR fl = s := ⟨_, rfl⟩
            have HSR := Lib.hid hsr
            rw [hsr] at HZ
            have hjb : fl.length ≤ 1000000000 := by omega
            have O7 := O4.toExt hy
            have R7 := R4.toExt hy
            obtain ⟨lo7, o70, o71, fo7⟩ := bx2 O7
            clear hfl hsr
            go_wp2_with (go_at_call 77; refine (sorted_any fl.length A7 c7 fl _ (Nat.le_refl _) hjb hc7 HLE.out rv7).mono ?_; rintro e w8 ⟨v8, F8, rfl, hx8, hS8, hN8, hF8⟩; rw [HSR.out] at hS8; obtain ⟨A8, c8, rfl, _, _⟩ := hS8.form; obtain ⟨lr8, r80, r81, fr8⟩ := bx2 (R7.toExt hx8); obtain ⟨lo8, o80, o81, fo8⟩ := bx2 (O7.toExt hx8))
            have hz4 := size_of_ext hy
            have hz24 := size_of_ext x24
            have hzw := size_of_ext xw2
            have hz12 := size_of_ext x12
            have hzO := (O4.toExt hy).1
            refine bodyPost_ret (v := .agg #[.int .i64 n, .slice A8 sr.length c8]) (by simp [results, Try.results50, go_sem, *]) rfl ⟨_, _, F8, rfl, (by refine Chg.isExt (F := []) ?_ (refl_ext _) (by simp); repeat (with_reducible (first | exact Chg.refl _ _ | exact Nat.le_refl _ | exact Chg.ofExt (by assumption) | refine Chg.trans0 ?_ (by assumption) | refine Chg.extS ?_ _ | refine Chg.alloc ?_ _ | refine Chg.drew ?_ | refine Chg.setCellE ?_ ?_ _ | refine le_addk ?_ _ | refine le_ext ?_ | refine le_alloc ?_ _ | refine le_setC ?_ _ _ | refine le_drew ?_ | assumption | (refine Nat.le_of_lt ?_; omega) | omega))), ?_, hN8, fun b hb => ?_⟩
            · rw [HZ.out]
              refine sRel_mk (OD.chg (E := sII) (G := [bO, w.heap.size + 1 + 1]) ⟨_, rfl, hS8⟩ (by repeat (with_reducible (first | exact Chg.refl _ _ | refine Chg.trans0 ?_ (by assumption) | refine Chg.extS ?_ _ | refine Chg.alloc ?_ _ | refine Chg.drew ?_ | refine Chg.setCell ?_ (.inl (by simp)) _))) ?_)
              intro b hb h
              have := hF8 b hb
              simp at h
              omega
            · have := hF8 b hb
              omega
    · have hne : (r.1 != (a.2.length : Int)) = true := by simpa using hr
      have HZ := Lib.hid (HZ2.out r HO.out hr)
      clear hr
      go_wp2_with fail
      refine bodyPost_ret (v := .agg #[.int .i64 n, .slice none 0 0]) (by simp [results, Try.results50, go_sem, *]) rfl ⟨_, _, [], rfl, (by refine Chg.isExt (F := []) ?_ (refl_ext _) (by simp); repeat (with_reducible (first | exact Chg.refl _ _ | exact Nat.le_refl _ | exact Chg.ofExt (by assumption) | refine Chg.trans0 ?_ (by assumption) | refine Chg.extS ?_ _ | refine Chg.alloc ?_ _ | refine Chg.drew ?_ | refine Chg.setCellE ?_ ?_ _ | refine le_addk ?_ _ | refine le_ext ?_ | refine le_alloc ?_ _ | refine le_setC ?_ _ _ | refine le_drew ?_ | assumption | (refine Nat.le_of_lt ?_; omega) | omega))), ?_, by simp, by simp⟩
      rw [HZ.out]
      exact sRel_mk (F := []) ⟨_, rfl, SV.nil⟩
theorem AtomBindings_x {A B : Option Addr} {c e : Nat} {d : Dbd} {s : ByteArray} {xs : List Int} {w : World} (hd : WDb d) (h1 : RV 3 vTb w A d) (hx : xs.length ≤ 1000000000) (h2 : RI w B xs) :
    Calls Try.prog 50 #[.agg #[.slice A d.length c], .agg #[.string s, .slice B xs.length e]] w (RelRes (atomBd d (s, xs)) w) := AtomBindings_any (a := (s, xs)) hd h1 hx h2
end Go.Proofs.Ytgoleefkbjjidaa

/- The bindings of an atom: the reference's way. -/
namespace Go.Proofs.Ytgoleefkbjjidaa
open Go.RowKit

theorem mapt_step {vars xs row : List Int} {k : Nat} (h : k < vars.length) : (vars.take (k + 1)).map (valAt xs row) = (vars.take k).map (valAt xs row) ++ [valAt xs row vars[k]] := by
  rw [List.take_succ_eq_append_getElem h, List.map_append]
  rfl
set_option maxRecDepth 100000 in
set_option maxHeartbeats 16000000 in
theorem specAtomBindings_any {A B : Option Addr} {c e : Nat} {d : Dbd} {a : At} {w : World} (hd : WDb d) (h1 : RV 3 vTb w A d) (hx : a.2.length ≤ 1000000000) (h2 : RI w B a.2) :
    Calls Try.prog 48 #[.agg #[.slice A d.length c], .agg #[.string a.1, .slice B a.2.length e]] w (RelRes (atomBd d a) w) := by
  have HD := Lib.hid hd
  have hav5 := avars_length 5 0 a.2
  have HZ1 := Lib.hid (fun h => atomBd_non (d := d) (a := a) h)
  have HZ2 := Lib.hid (fun r h hr => atomBd_ar (d := d) (a := a) (r := r) h hr)
  have HAV := Lib.hid (fun v (hv : v ∈ avars 5 0 a.2) => (mem_avars 5 0 _ v).1 hv)
  have HFS := Lib.hid (fun rows k (hk : k < rows.length) => fitRS_step (xs := a.2) (rows := rows) (k := k) hk)
  have HFE := Lib.hid (fun rows => fitRS_el (xs := a.2) (rows := rows))
  have HNW := Lib.hid (fun h => fitRS_eq (d := d) (a := a) h)
  obtain ⟨o, ho⟩ : ∃ o, lookD d a.1 = o := ⟨_, rfl⟩
  have HO := Lib.hid ho
  clear hd ho
  go_enter Try.func48, Try.ntmps48
  go_upto_region 1 with fail
  refine wp_name ?_
  intro W hW
  have xW : ∃ y, W = ext w y := by rw [hW.out]; exact (by refine Chg.isExt (F := []) ?_ (refl_ext _) (by simp); repeat (with_reducible (first | exact Chg.refl _ _ | exact Nat.le_refl _ | exact Chg.ofExt (by assumption) | refine Chg.trans0 ?_ (by assumption) | refine Chg.extS ?_ _ | refine Chg.alloc ?_ _ | refine Chg.drew ?_ | refine Chg.setCellE ?_ ?_ _ | refine le_addk ?_ _ | refine le_ext ?_ | refine le_alloc ?_ _ | refine le_setC ?_ _ _ | refine le_drew ?_ | assumption | (refine Nat.le_of_lt ?_; omega) | omega)))
  have PW : BoxAt W w.heap.size #[.slice A d.length c] := by rw [hW.out]; exact (by repeat (with_reducible (first | assumption | exact BoxAt.new _ _ _ | apply BoxAt.set10 | apply BoxAt.set2 | refine BoxAt.set2' ?_ (by omega) | apply BoxAt.setP0 | apply BoxAt.setP1 | refine BoxAt.setO ?_ (by omega) | refine BoxAt.alloc ?_ _ | refine BoxAt.drew ?_ | refine BoxAt.toExt ?_ (by assumption))))
  have QW : BoxAt W (w.heap.size + 1) #[.string a.1, .slice B a.2.length e] := by rw [hW.out]; refine ⟨?_, fun j => ?_, fun j => ?_⟩ <;> go_simp
  have RW : BoxAt W (w.heap.size + 1 + 1) #[.int .i64 0, .slice none 0 0] := by rw [hW.out]; refine ⟨?_, fun j => ?_, fun j => ?_⟩ <;> go_simp
  obtain ⟨lq, q0, q1, fq⟩ := bx2 QW
  clear hW
  go_wp2_with fail
  refine (specAtomVariables_any (by omega) (h2.toExt xW)).mono ?_
  rintro e w1 ⟨v1, F1, rfl, hx1, hSv, hFv⟩
  obtain ⟨Av, cv, rfl, _, _, rv⟩ := hSv.view sI_v
  obtain ⟨vars, hvars⟩ : ∃ v, avars 5 0 a.2 = v := ⟨_, rfl⟩
  have HVR := Lib.hid hvars
  rw [hvars] at rv hav5 HZ1 HZ2 HAV HFS HFE HNW ⊢
  obtain ⟨n, hn⟩ : ∃ n : Int, (vars.length : Int) = n := ⟨_, rfl⟩
  have HNN := Lib.hid hn
  rw [hn] at HZ1 HZ2 HNW
  have hI64 : I64 n := ⟨by omega, by omega⟩
  have P1 := PW.toExt hx1
  have Q1 := QW.toExt hx1
  have R1 := RW.toExt hx1
  have xw1 := trans_ext xW hx1
  obtain ⟨lp1, p10, fp1⟩ := bx1 P1
  obtain ⟨lq1, q10, q11, fq1⟩ := bx2 Q1
  clear lq q0 q1 fq PW QW RW hSv hFv hvars hn
  go_upto_region 3 with (go_at_call 99; refine (specLookupRelation_any HD.out (h1.toExt xw1)).mono ?_; rw [HO.out]; rintro e w3 ⟨u0, u1, F3, rfl, hx3, hS3, hN3, hF3⟩; obtain ⟨A3, c3, rfl, rfl, hI3⟩ := sRel_form hS3)
  refine wp_name ?_
  intro w2 hw2
  have x32 : ∃ y, w2 = ext w3 y := by rw [hw2.out]; exact (by refine Chg.isExt (F := []) ?_ (refl_ext _) (by simp); repeat (with_reducible (first | exact Chg.refl _ _ | exact Nat.le_refl _ | exact Chg.ofExt (by assumption) | refine Chg.trans0 ?_ (by assumption) | refine Chg.extS ?_ _ | refine Chg.alloc ?_ _ | refine Chg.drew ?_ | refine Chg.setCellE ?_ ?_ _ | refine le_addk ?_ _ | refine le_ext ?_ | refine le_alloc ?_ _ | refine le_setC ?_ _ _ | refine le_drew ?_ | assumption | (refine Nat.le_of_lt ?_; omega) | omega)))
  have X2 : BoxAt w2 w3.heap.size #[.int .i64 (o.getD (0, [])).1, .slice A3 (o.getD (0, [])).2.length c3] := by rw [hw2.out]; exact (by repeat (with_reducible (first | assumption | exact BoxAt.new _ _ _ | apply BoxAt.set2 | refine BoxAt.set2' ?_ (by omega) | apply BoxAt.setP0 | apply BoxAt.setP1 | refine BoxAt.setO ?_ (by omega) | refine BoxAt.alloc ?_ _ | refine BoxAt.drew ?_ | refine BoxAt.toExt ?_ (by assumption))))
  obtain ⟨bX, qX⟩ : ∃ b, w3.heap.size = b := ⟨_, rfl⟩
  rw [qX] at X2 ⊢
  have hbX : w.heap.size + 1 + 1 < bX := by have := (R1.toExt hx3).1; omega
  clear hw2 qX
  go_upto_region 4 with fail
  refine wp_name ?_
  intro w4 hw4
  have x24' : ∃ y, w4 = ext w2 y := by rw [hw4.out]; exact (by refine Chg.isExt (F := []) ?_ (refl_ext _) (by simp); repeat (with_reducible (first | exact Chg.refl _ _ | exact Nat.le_refl _ | exact Chg.ofExt (by assumption) | refine Chg.trans0 ?_ (by assumption) | refine Chg.extS ?_ _ | refine Chg.alloc ?_ _ | refine Chg.drew ?_ | refine Chg.setCellE ?_ ?_ _ | refine le_addk ?_ _ | refine le_ext ?_ | refine le_alloc ?_ _ | refine le_setC ?_ _ _ | refine le_drew ?_ | assumption | (refine Nat.le_of_lt ?_; omega) | omega)))
  have O4 : BoxAt w4 w2.heap.size #[.int .i64 n, .slice none 0 0] := by rw [hw4.out, ← HNN.out]; exact (by repeat (with_reducible (first | assumption | exact BoxAt.new _ _ _ | apply BoxAt.set2 | refine BoxAt.set2' ?_ (by omega) | apply BoxAt.setP0 | apply BoxAt.setP1 | refine BoxAt.setO ?_ (by omega) | refine BoxAt.alloc ?_ _ | refine BoxAt.drew ?_ | refine BoxAt.toExt ?_ (by assumption))))
  have x34 := trans_ext x32 x24'
  have x14 := trans_ext hx3 x34
  have xw4 := trans_ext xw1 x14
  have X4 := X2.toExt x24'
  have Q4 := Q1.toExt x14
  have R4 := R1.toExt x14
  have rv4 := rv.toExt x14
  have rk4 : RII w4 A3 (o.getD (0, [])).2 := ((vII_get (sII_v _ _ _ hI3)).2).toExt x34
  obtain ⟨lo4, o40, o41, fo4⟩ := bx2 O4
  obtain ⟨lx4, x40, x41, fx4⟩ := bx2 X4
  obtain ⟨lq4, q40, q41, fq4⟩ := bx2 Q4
  obtain ⟨lr4, r40, r41, fr4⟩ := bx2 R4
  clear hw4 hS3 hI3 hN3 hF3 lp1 p10 fp1 lq1 q10 q11 fq1 P1 Q1 R1 rv X2
  cases o with
  | none =>
    have HZ := Lib.hid (HZ1.out HO.out)
    go_wp2_with fail
    refine bodyPost_ret (v := .agg #[.int .i64 n, .slice none 0 0]) (by simp [results, Try.results48, go_sem, *]) rfl ⟨_, _, [], rfl, (by refine Chg.isExt (F := []) ?_ (refl_ext _) (by simp); repeat (with_reducible (first | exact Chg.refl _ _ | exact Nat.le_refl _ | exact Chg.ofExt (by assumption) | refine Chg.trans0 ?_ (by assumption) | refine Chg.extS ?_ _ | refine Chg.alloc ?_ _ | refine Chg.drew ?_ | refine Chg.setCellE ?_ ?_ _ | refine le_addk ?_ _ | refine le_ext ?_ | refine le_alloc ?_ _ | refine le_setC ?_ _ _ | refine le_drew ?_ | assumption | (refine Nat.le_of_lt ?_; omega) | omega))), ?_, by simp, by simp⟩
    rw [HZ.out]
    exact sRel_mk (F := []) ⟨_, rfl, SV.nil⟩
  | some r =>
    simp only [Option.getD_some, Option.isSome_some] at x40 x41 rk4 X4 ⊢
    have h2r := h2.toExt xw4
    by_cases hr : r.1 = (a.2.length : Int)
    · have hne : (r.1 != (a.2.length : Int)) = false := by simpa using hr
      obtain ⟨k1, k2, k3, k4, k5⟩ := look_ok HO.out hr
      have HL5 := Lib.hid k5
      have HNW := Lib.hid (show newR n (fitRS a.2 r.2) = some (atomBd d a) by rw [← k2]; exact HNW.out k1)
      have hx9 : a.2.length ≤ 1000000000 := by omega
      have hvl9 : vars.length ≤ 1000000000 := by omega
      have HVM : Hid (∀ v ∈ vars, v ∈ a.2) := Lib.hid (fun v hv => (HAV.out v hv).2.2)
      have hE0 : SV 22 1 sRow (w4.alloc (.cells #[] 22)) (.slice (some ⟨w4.heap.size, 0, none⟩) 0 0) [] [w4.heap.size] := SV.empty w4
      clear hr k1 k2 k5
      go_wp2_with fail
      clear lo4 o40 o41 fo4 lx4 x40 x41 fx4 lq4 q40 q41 fq4 lr4 r40 r41 fr4 h2r
      go_loopw [9, 10] (fun v i wr => ∃ (k : Nat) (F : List Nat), i = .int .i64 k ∧ k ≤ r.2.length ∧ SV 22 1 sRow wr v (fitRS a.2 (r.2.take k)) F ∧ Hid F.Nodup ∧ Hid (∀ x ∈ F, w4.heap.size ≤ x) ∧ ∃ y, wr = ext w4 y) (fun _ i _ => r.2.length - (intOf i).toNat)
      case atStart => exact ⟨0, _, rfl, by omega, by simpa [fitRS] using hE0, Lib.hid (by simp), Lib.hid (by simp), alloc_ext _ _⟩
      case round =>
        obtain ⟨k, F, rfl, hk, hS, HN, HF, hy⟩ := hrel
        have X5 := X4.toExt hy
        have Q5 := Q4.toExt hy
        obtain ⟨lx5, x50, x51, fx5⟩ := bx2 X5
        by_cases hlt : k < r.2.length
        · obtain ⟨br, orr, A5, c5, rfl, hbr, hcr, hvr⟩ := (rk4.toExt hy).atV hlt
          have lr := HL5.out _ (List.getElem_mem hlt)
          have hst := HFS.out r.2 k hlt
          have hlk := fitRS_len (xs := a.2) (rows := r.2) (k := k)
          obtain ⟨row, hrow⟩ : ∃ x, r.2[k] = x := ⟨_, rfl⟩
          rw [hrow] at hcr hvr lr hst
          obtain ⟨fl, hfl⟩ : ∃ l, fitRS a.2 (r.2.take k) = l := ⟨_, rfl⟩
          rw [hfl] at hst hlk hS
          have HST := Lib.hid hst
          have HS := Lib.hid hS
          have HSlt := Lib.hid hS.lt
          have HLR := Lib.hid lr
          have HCR := Lib.hid hcr
          have HFA := Lib.hid (fitS_all (vars := vars) lr)
          have hE3 := SV.empty (α := Int) (te := 3) (size := 1) (E := sI) wr
          have hw5 := trans_ext xw4 hy
          have h2r := h2.toExt hw5
          have rvr := rv4.toExt hy
          obtain ⟨lq5, q50, q51, fq5⟩ := bx2 Q5
          have hbr0 := hbr
          clear hrow hfl lr hst hS
          obtain ⟨wo, rfl⟩ : ∃ wo : World, wo = wr := ⟨_, rfl⟩
          go_wp2_with fail
          go_loopw [11, 12] (fun v j wq => ∃ (k3 : Nat) (F3 : List Nat), j = .int .i64 k3 ∧ k3 ≤ vars.length ∧ SV 3 1 sI wq v ((vars.take k3).map (valAt a.2 row)) F3 ∧ Hid (∀ x ∈ F3, wo.heap.size ≤ x) ∧ ∃ y, wq = ext wo y) (fun _ j _ => vars.length - (intOf j).toNat)
          case atStart => exact ⟨0, _, rfl, by omega, by simpa using hE3, Lib.hid (by simp), alloc_ext _ _⟩
          case round =>
            obtain ⟨k3, F3, rfl, hk3, hS3, HF3, hy3⟩ := hrel
            by_cases hlt3 : k3 < vars.length
            · obtain ⟨bu, ou, rfl, hbu, hcu⟩ := rvr.atI hlt3
              have hmem := HVM.out _ (List.getElem_mem hlt3)
              have Ht := Lib.hid (mapt_step (xs := a.2) (row := row) hlt3)
              have hlk3 : ((vars.take k3).map (valAt a.2 row)).length + 1 ≤ 2000000000 := by simp; omega
              obtain ⟨v, hv⟩ : ∃ v, vars[k3] = v := ⟨_, rfl⟩
              rw [hv] at hcu hmem Ht
              obtain ⟨p, hp1, hp2, hp3⟩ := iof_at (r := row) hmem
              obtain ⟨bs', os', rfl, hbs', hcs'⟩ := hvr.atI' (n := p) (by rw [HLR.out]; exact hp1)
              have hq4 : (p : Int) < (row.length : Int) := by rw [HLR.out]; omega
              obtain ⟨x, hx8⟩ : ∃ x, row.getD p 0 = x := ⟨_, rfl⟩
              rw [hx8] at hcs' hp3
              rw [hp3] at Ht
              have HI := Lib.hid hp2
              clear hv hmem hp2 hp3 hx8
              go_wp2_with fail
              go_region_held3 (fun w' => (∀ a : Addr, a.block < wo.heap.size → w'.cell? a = wo.cell? a) ∧ ∃ y, w' = ext wo y) (first | exact heldE (hC'.isExt (by refine Chg.isExt (F := []) ?_ (refl_ext _) (by simp); repeat (with_reducible (first | exact Chg.refl _ _ | exact Nat.le_refl _ | exact Chg.ofExt (by assumption) | refine Chg.trans0 ?_ (by assumption) | refine Chg.extS ?_ _ | refine Chg.alloc ?_ _ | refine Chg.drew ?_ | refine Chg.setCellE ?_ ?_ _ | refine le_addk ?_ _ | refine le_ext ?_ | refine le_alloc ?_ _ | refine le_setC ?_ _ _ | refine le_drew ?_ | assumption | (refine Nat.le_of_lt ?_; omega) | omega))) HF3.out) | exact heldE (by refine Chg.isExt (F := []) ?_ (refl_ext _) (by simp); repeat (with_reducible (first | exact Chg.refl _ _ | exact Nat.le_refl _ | exact Chg.ofExt (by assumption) | refine Chg.trans0 ?_ (by assumption) | refine Chg.extS ?_ _ | refine Chg.alloc ?_ _ | refine Chg.drew ?_ | refine Chg.setCellE ?_ ?_ _ | refine le_addk ?_ _ | refine le_ext ?_ | refine le_alloc ?_ _ | refine le_setC ?_ _ _ | refine le_drew ?_ | assumption | (refine Nat.le_of_lt ?_; omega) | omega)))) (first
                | (go_at_call 75; refine (l7Find_any hx9 (h2r.toExt (by refine Chg.isExt (F := []) ?_ (refl_ext _) (by simp); repeat (with_reducible (first | exact Chg.refl _ _ | exact Nat.le_refl _ | exact Chg.ofExt (by assumption) | refine Chg.trans0 ?_ (by assumption) | refine Chg.extS ?_ _ | refine Chg.alloc ?_ _ | refine Chg.drew ?_ | refine Chg.setCellE ?_ ?_ _ | refine le_addk ?_ _ | refine le_ext ?_ | refine le_alloc ?_ _ | refine le_setC ?_ _ _ | refine le_drew ?_ | assumption | (refine Nat.le_of_lt ?_; omega) | omega))))).mono ?_; rintro e w13 ⟨rfl, hx13⟩; rw [HI.out])
                | (refine step_app1 (E := sI) (d := x) (by rfl) _ _ _ (by rfl) tI (by rfl) (by rfl) (by rfl) (by simp) (fun _ => ⟨rfl, rfl⟩) (by rfl) (by simp [Value.oneCell']) (hS3.toExt (by refine Chg.isExt (F := []) ?_ (refl_ext _) (by simp); repeat (with_reducible (first | exact Chg.refl _ _ | exact Nat.le_refl _ | exact Chg.ofExt (by assumption) | refine Chg.trans0 ?_ (by assumption) | refine Chg.extS ?_ _ | refine Chg.alloc ?_ _ | refine Chg.drew ?_ | refine Chg.setCellE ?_ ?_ _ | refine le_addk ?_ _ | refine le_ext ?_ | refine le_alloc ?_ _ | refine le_setC ?_ _ _ | refine le_drew ?_ | assumption | (refine Nat.le_of_lt ?_; omega) | omega)))) hlk3 (by omega) ?_; intro v' w' F' hS' hC' hF'))
              all_goals
                have hyz13 : ∃ y, w13 = ext wo y := (by refine Chg.isExt (F := []) ?_ (refl_ext _) (by simp); repeat (with_reducible (first | exact Chg.refl _ _ | exact Nat.le_refl _ | exact Chg.ofExt (by assumption) | refine Chg.trans0 ?_ (by assumption) | refine Chg.extS ?_ _ | refine Chg.alloc ?_ _ | refine Chg.drew ?_ | refine Chg.setCellE ?_ ?_ _ | refine le_addk ?_ _ | refine le_ext ?_ | refine le_alloc ?_ _ | refine le_setC ?_ _ _ | refine le_drew ?_ | assumption | (refine Nat.le_of_lt ?_; omega) | omega)))
                go_wp2
                exact ⟨⟨k3 + 1, F', by go_num, by omega, by rw [Ht.out]; exact hS', Lib.hid (newer HF3.out (size_of_ext hyz13) hF'), hC'.isExt hyz13 HF3.out⟩, by simp [intOf]; omega⟩
            · rw [show vars.take k3 = vars from List.take_of_length_le (by omega)] at hS3
              have HVM2 := Lib.hid (fun v (hv : v ∈ vars) => valAt_map (va := vars) (g := valAt a.2 row) hv)
              have hnl : (vars.map (valAt a.2 row)).length = vars.length := by simp
              obtain ⟨nr, hnr⟩ : ∃ l, vars.map (valAt a.2 row) = l := ⟨_, rfl⟩
              rw [hnr] at hS3 hnl HVM2
              have HNR := Lib.hid hnr
              have HNL := Lib.hid hnl
              obtain ⟨A9, c9, rfl, _, _⟩ := hS3.form
              have hv9 := hS3.toView sI_v
              obtain ⟨w5, rfl⟩ : ∃ w5 : World, w5 = wr := ⟨_, rfl⟩
              have HS3 := Lib.hid hS3
              clear hnr hnl lx5 x50 x51 fx5 lq5 q50 q51 fq5 hS3 hcr hbr
              go_wp2_with fail
              have hyo := hy3
              go_loopw [13, 14] (fun f i wq => ∃ (j : Nat), i = .int .i64 j ∧ j ≤ a.2.length ∧ f = .bool (fitS vars a.2 row j) ∧ ∃ y, wq = ext w5 y) (fun _ i _ => a.2.length - (intOf i).toNat)
              case atStart => exact ⟨0, rfl, by omega, rfl, refl_ext w5⟩
              case round =>
                obtain ⟨j, rfl, hj, rfl, hy5⟩ := hrel
                have hyo5 := trans_ext hyo hy5
                obtain ⟨lq5, q50, q51, fq5⟩ := bx2 (Q5.toExt hyo5)
                by_cases hlt2 : j < a.2.length
                · obtain ⟨bv, ov, rfl, hbv, hcv⟩ := (h2r.toExt hyo5).atI' (n := j) hlt2
                  obtain ⟨br', or', rfl, hbr', hcr'⟩ := (hvr.toExt hyo5).atI' (n := j) (by rw [HLR.out]; exact hlt2)
                  have hfs := fitS_step (vars := vars) (xs := a.2) (row := row) (k := j)
                  have hjl : (j : Int) < (row.length : Int) := by rw [HLR.out]; omega
                  have hrr := rvr.toExt hyo5
                  have hcr5 := cellW hyo5 hbr0 HCR.out
                  have hbr5 := ltW hyo5 hbr0
                  obtain ⟨lx5, x50, x51, fx5⟩ := bx2 (X5.toExt hyo5)
                  obtain ⟨v, hv⟩ : ∃ v, a.2.getD j 0 = v := ⟨_, rfl⟩
                  obtain ⟨z, hz9⟩ : ∃ z, row.getD j 0 = z := ⟨_, rfl⟩
                  obtain ⟨fj, hfj⟩ : ∃ f, fitS vars a.2 row j = f := ⟨_, rfl⟩
                  rw [hv] at hcv hfs
                  rw [hz9] at hcr' hfs
                  rw [hfj] at hfs ⊢
                  have HFJ := Lib.hid hfs
                  clear hv hz9 hfj hfs
                  by_cases hm : v ∈ vars
                  · obtain ⟨p, hp1, hp2, hp3⟩ := iof_at (r := nr) hm
                    have hvm := HVM2.out v hm
                    obtain ⟨b9, o9, rfl, hb9, hc9⟩ := (hv9.toExt hy5).atI' (n := p) (by rw [HNL.out]; exact hp1)
                    have hpl : (p : Int) < (nr.length : Int) := by rw [HNL.out]; omega
                    obtain ⟨x, hx8⟩ : ∃ x, nr.getD p 0 = x := ⟨_, rfl⟩
                    rw [hx8] at hc9 hp3
                    rw [hp3] at hvm
                    have HI := Lib.hid hp2
                    have hpz : (0 : Int) ≤ (p : Int) := by omega
                    by_cases hxz : x = z
                    · have hbe : (x == z) = true := by simpa using hxz
                      have HFN := Lib.hid (show fitS vars a.2 row (j + 1) = fj by rw [HFJ.out, ← hvm, decide_eq_true hm, decide_eq_true hxz]; simp)
                      clear hvm hm hp2 hp3 hx8 hxz
                      cases fj
                      all_goals
                        go_upto_region 20 with (go_at_call 75; refine (l7Find_any hvl9 hrr).mono ?_; rintro e w6 ⟨rfl, hx6⟩; rw [HI.out]; have hc9 := cellW hx6 hb9 hc9; have hb9 := ltW hx6 hb9; have hcr' := cellW hx6 hbr' hcr'; have hbr' := ltW hx6 hbr'; have hcr5 := cellW hx6 hbr5 hcr5; have hbr5 := ltW hx6 hbr5; obtain ⟨lx6, x60, x61, fx6⟩ := bx2 (X5.toExt (trans_ext hyo5 hx6)))
                        go_wp2_with fail
                        refine wp_region_ext (by kernel_rfl) (by kernel_rfl) ?_
                        repeat (go_big_quiet_step (fail))
                        refine wpQuiet_nil ?_
                        rintro _ ⟨zz, rfl⟩
                        go_wp2
                        exact ⟨⟨j + 1, by go_num, by omega, by rw [HFN.out], trans_ext (trans_ext hy5 hx6) ⟨_, rfl⟩⟩, by simp [intOf]; omega⟩
                    · have hbe : (x == z) = false := by simpa using hxz
                      have HFN := Lib.hid (show fitS vars a.2 row (j + 1) = false by rw [HFJ.out, ← hvm, decide_eq_false hxz]; simp)
                      clear hvm hm hp2 hp3 hx8 hxz
                      cases fj
                      all_goals
                        go_upto_region 20 with (go_at_call 75; refine (l7Find_any hvl9 hrr).mono ?_; rintro e w6 ⟨rfl, hx6⟩; rw [HI.out]; have hc9 := cellW hx6 hb9 hc9; have hb9 := ltW hx6 hb9; have hcr' := cellW hx6 hbr' hcr'; have hbr' := ltW hx6 hbr'; have hcr5 := cellW hx6 hbr5 hcr5; have hbr5 := ltW hx6 hbr5; obtain ⟨lx6, x60, x61, fx6⟩ := bx2 (X5.toExt (trans_ext hyo5 hx6)))
                        go_wp2_with fail
                        refine wp_region_ext (by kernel_rfl) (by kernel_rfl) ?_
                        repeat (go_big_quiet_step (fail))
                        refine wpQuiet_nil ?_
                        rintro _ ⟨zz, rfl⟩
                        go_wp2
                        exact ⟨⟨j + 1, by go_num, by omega, by rw [HFN.out], trans_ext (trans_ext hy5 hx6) ⟨_, rfl⟩⟩, by simp [intOf]; omega⟩
                  · have HI := Lib.hid (iof_none (k := 0) hm)
                    have HFN := Lib.hid (show fitS vars a.2 row (j + 1) = false by rw [HFJ.out, decide_eq_false hm]; simp)
                    clear hm
                    cases fj
                    all_goals
                      go_upto_region 20 with (go_at_call 75; refine (l7Find_any hvl9 hrr).mono ?_; rintro e w6 ⟨rfl, hx6⟩; rw [HI.out])
                      go_wp2_with fail
                      refine wp_region_ext (by kernel_rfl) (by kernel_rfl) ?_
                      repeat (go_big_quiet_step (fail))
                      refine wpQuiet_nil ?_
                      rintro _ ⟨zz, rfl⟩
                      go_wp2
                      exact ⟨⟨j + 1, by go_num, by omega, by rw [HFN.out], trans_ext (trans_ext hy5 hx6) ⟨_, rfl⟩⟩, by simp [intOf]; omega⟩
                · obtain rfl : j = a.2.length := by omega
                  rw [HFA.out]
                  obtain ⟨t, ht⟩ : ∃ t, (rowFit a.2 row && a.2.all fun v => decide (v ∈ vars)) = t := ⟨_, rfl⟩
                  rw [ht] at HST ⊢
                  have hSo := HS.out.toExt hyo5
                  have hy4' := trans_ext hy hyo5
                  clear ht
                  cases t with
                  | false =>
                    have HK := Lib.hid (show fitRS a.2 (r.2.take (k + 1)) = fl by rw [HST.out]; simp)
                    go_wp2
                    exact ⟨⟨k + 1, F, by go_num, by omega, by rw [HK.out]; exact hSo, HN, HF, hy4'⟩, by simp [intOf]; omega⟩
                  | true =>
                    have HK := Lib.hid (show fitRS a.2 (r.2.take (k + 1)) = fl ++ [nr] by rw [HST.out, if_pos rfl, HNR.out])
                    have hS39 := HS3.out.toExt hy5
                    have hN3 := nodup_more HN.out HS3.out.nodup HSlt.out HF3.out
                    have hlk2 : fl.length + 1 ≤ 2000000000 := by omega
                    go_wp2_with (at_builtin; refine wpList_appN (E := sRow) (d := nr) (G := F3) rfl _ _ _ rfl tIIr rfl rfl rfl (by simp) ⟨_, rfl, hS39⟩ rfl (by simp [Value.oneCell']) hSo hN3 hlk2 (by omega) ?_; intro v' w' F' hS' hC' hN' hF')
                    refine ⟨⟨k + 1, F', by go_num, by omega, by rw [HK.out]; exact hS', Lib.hid hN', Lib.hid (fun b hb => ?_), hC'.isExt hy4' HF.out⟩, by simp [intOf]; omega⟩
                    have hzw := size_of_ext hy
                    have hzv := size_of_ext hyo5
                    rcases hF' b hb with h | h | h
                    · exact HF.out b h
                    · have := HF3.out b h; omega
                    · omega
        · obtain rfl : k = r.2.length := by omega
          rw [List.take_of_length_le (Nat.le_refl _)] at hS
          have hlk := fitRS_len (xs := a.2) (rows := r.2) (k := r.2.length)
          rw [List.take_of_length_le (Nat.le_refl _)] at hlk
          have HLE := Lib.hid (fun x (hx : x ∈ fitRS a.2 r.2) => show x.length ≤ 1000000000 by rw [HFE.out r.2 x hx]; omega)
          obtain ⟨fl, hfl⟩ : ∃ l, fitRS a.2 r.2 = l := ⟨_, rfl⟩
          rw [hfl] at hS hlk HLE HNW
          obtain ⟨A7, c7, rfl, hc7, _, rv7⟩ := hS.view (V := vSl 1 vI) (sSl_v sI_v)
          obtain ⟨D, hD⟩ : ∃ D, atomBd d a = D := ⟨_, rfl⟩
          have HDD := Lib.hid hD
          rw [hD] at HNW
          have hjb : fl.length ≤ 1000000000 := by omega
          have R7 := R4.toExt hy
          have HNN2 := Lib.hid HNN.out
          clear hfl hD
          go_wp2_with (go_at_call 76; rw [HNN2.out]; refine (specNewRelation_any hI64 hjb hc7 HLE.out rv7).mono ?_; rw [HNW.out]; rintro e w8 ⟨u0, u1, F8, rfl, hx8, hS8, hN8, hF8⟩; obtain ⟨A8, c8, rfl, rfl, _⟩ := sRel_form hS8; obtain ⟨lr8, r80, r81, fr8⟩ := bx2 (R7.toExt hx8))
          have hz4 := size_of_ext hy
          have hz14 := size_of_ext x14
          have hzw := size_of_ext xw1
          have hzR := R7.1
          refine bodyPost_ret (v := .agg #[.int .i64 D.1, .slice A8 D.2.length c8]) (by simp [results, Try.results48, go_sem, *]) rfl ⟨_, _, F8, rfl, (by refine Chg.isExt (F := []) ?_ (refl_ext _) (by simp); repeat (with_reducible (first | exact Chg.refl _ _ | exact Nat.le_refl _ | exact Chg.ofExt (by assumption) | refine Chg.trans0 ?_ (by assumption) | refine Chg.extS ?_ _ | refine Chg.alloc ?_ _ | refine Chg.drew ?_ | refine Chg.setCellE ?_ ?_ _ | refine le_addk ?_ _ | refine le_ext ?_ | refine le_alloc ?_ _ | refine le_setC ?_ _ _ | refine le_drew ?_ | assumption | (refine Nat.le_of_lt ?_; omega) | omega))), ?_, hN8, fun b hb => ?_⟩
          · rw [HDD.out]
            have hS9 : sRel w8 [.int .i64 D.1, .slice A8 D.2.length c8] D F8 := hS8
            refine OD.chg (E := sRel) (G := [w.heap.size + 1 + 1]) hS9 (by repeat (with_reducible (first | exact Chg.refl _ _ | refine Chg.trans0 ?_ (by assumption) | refine Chg.extS ?_ _ | refine Chg.alloc ?_ _ | refine Chg.drew ?_ | refine Chg.setCell ?_ (.inl (by simp)) _))) ?_
            intro b hb h
            have := hF8 b hb
            rw [List.mem_singleton.1 h] at this
            omega
          · have := hF8 b hb
            omega
    · have hne : (r.1 != (a.2.length : Int)) = true := by simpa using hr
      have HZ := Lib.hid (HZ2.out r HO.out hr)
      clear hr
      go_wp2_with fail
      refine bodyPost_ret (v := .agg #[.int .i64 n, .slice none 0 0]) (by simp [results, Try.results48, go_sem, *]) rfl ⟨_, _, [], rfl, (by refine Chg.isExt (F := []) ?_ (refl_ext _) (by simp); repeat (with_reducible (first | exact Chg.refl _ _ | exact Nat.le_refl _ | exact Chg.ofExt (by assumption) | refine Chg.trans0 ?_ (by assumption) | refine Chg.extS ?_ _ | refine Chg.alloc ?_ _ | refine Chg.drew ?_ | refine Chg.setCellE ?_ ?_ _ | refine le_addk ?_ _ | refine le_ext ?_ | refine le_alloc ?_ _ | refine le_setC ?_ _ _ | refine le_drew ?_ | assumption | (refine Nat.le_of_lt ?_; omega) | omega))), ?_, by simp, by simp⟩
      rw [HZ.out]
      exact sRel_mk (F := []) ⟨_, rfl, SV.nil⟩
theorem specAtomBindings_x {A B : Option Addr} {c e : Nat} {d : Dbd} {s : ByteArray} {xs : List Int} {w : World} (hd : WDb d) (h1 : RV 3 vTb w A d) (hx : xs.length ≤ 1000000000) (h2 : RI w B xs) :
    Calls Try.prog 48 #[.agg #[.slice A d.length c], .agg #[.string s, .slice B xs.length e]] w (RelRes (atomBd d (s, xs)) w) := specAtomBindings_any (a := (s, xs)) hd h1 hx h2
end Go.Proofs.Ytgoleefkbjjidaa

/- Bindings of atoms and queries are small. No program in it. -/
namespace Go.Proofs.Ytgoleefkbjjidaa
open Go.RowKit

theorem atomVR_bd (d : Dbd) (a : At) : BVR (atomVR d a) := vrok_bd atomBd_ok
theorem atomBd_bd (d : Dbd) (a : At) : BRel (atomBd d a) := (atomVR_bd d a).2
end Go.Proofs.Ytgoleefkbjjidaa

/- The labeled relation of an atom: the program's way and the reference's. -/
namespace Go.Proofs.Ytgoleefkbjjidaa
open Go.RowKit

/-- a labeled relation handed back, newer than the call -/
def VRRes (d : VRd) (w : World) (e : Ending) (w' : World) : Prop := ∃ v0 v1 v2 F, e = .returned (.agg #[v0, v1, v2]) ∧ (∃ y, w' = ext w y) ∧ sVR w' [v0, v1, v2] d F ∧ F.Nodup ∧ ∀ b ∈ F, w.heap.size ≤ b
theorem nodup_less {F G : List Nat} {n : Nat} (h1 : F.Nodup) (h2 : G.Nodup) (h3 : ∀ b ∈ G, b < n) (h4 : ∀ b ∈ F, n ≤ b) : (F ++ G).Nodup :=
  List.nodup_append.2 ⟨h1, h2, fun a ha b hb e => by have := h4 a ha; have := h3 b hb; omega⟩
theorem cell_st3 {w : World} {B b o : Nat} {u v x y : Value} (h : w.cell? ⟨b, o, none⟩ = some y) (hl : b < w.heap.size) (hne : b ≠ B) : (((w.setCell ⟨B, 0, none⟩ u).setCell ⟨B, 1, none⟩ v).setCell ⟨B, 2, none⟩ x).cell? ⟨b, o, none⟩ = some y :=
  (Chg.cell ((((Chg.refl [B] w).setCell (.inl (by simp)) u).setCell (.inl (by simp)) v).setCell (.inl (by simp)) x) (by simpa using hne) hl).trans h
set_option maxRecDepth 100000 in
set_option maxHeartbeats 8000000 in
theorem AtomRelation_any {A B : Option Addr} {c e : Nat} {d : Dbd} {a : At} {w : World} (hd : WDb d) (h1 : RV 3 vTb w A d) (hx : a.2.length ≤ 1000000000) (h2 : RI w B a.2) :
    Calls Try.prog 55 #[.agg #[.slice A d.length c], .agg #[.string a.1, .slice B a.2.length e]] w (VRRes (atomVR d a) w) := by
  have HD := Lib.hid hd
  clear hd
  go_enter Try.func55, Try.ntmps55
  go_upto_region 1 with fail
  refine wp_name ?_
  intro W hW
  have xW : ∃ y, W = ext w y := by rw [hW.out]; exact (by refine Chg.isExt (F := []) ?_ (refl_ext _) (by simp); repeat (with_reducible (first | exact Chg.refl _ _ | exact Nat.le_refl _ | exact Chg.ofExt (by assumption) | refine Chg.trans0 ?_ (by assumption) | refine Chg.extS ?_ _ | refine Chg.alloc ?_ _ | refine Chg.drew ?_ | refine Chg.setCellE ?_ ?_ _ | refine le_addk ?_ _ | refine le_ext ?_ | refine le_alloc ?_ _ | refine le_setC ?_ _ _ | refine le_drew ?_ | assumption | (refine Nat.le_of_lt ?_; omega) | omega)))
  have PW : BoxAt W w.heap.size #[.slice A d.length c] := by rw [hW.out]; exact (by repeat (with_reducible (first | assumption | exact BoxAt.new _ _ _ | apply BoxAt.set10 | apply BoxAt.set2 | refine BoxAt.set2' ?_ (by omega) | apply BoxAt.setP0 | apply BoxAt.setP1 | refine BoxAt.setO ?_ (by omega) | refine BoxAt.alloc ?_ _ | refine BoxAt.drew ?_ | refine BoxAt.toExt ?_ (by assumption))))
  have QW : BoxAt W (w.heap.size + 1) #[.string a.1, .slice B a.2.length e] := by rw [hW.out]; refine ⟨?_, fun j => ?_, fun j => ?_⟩ <;> go_simp
  have RW : BoxAt W (w.heap.size + 1 + 1) #[.slice none 0 0, .int .i64 0, .slice none 0 0] := by rw [hW.out]; refine ⟨?_, fun j => ?_, fun j => ?_⟩ <;> go_simp
  obtain ⟨lp, p0, fp⟩ := bx1 PW
  obtain ⟨lq, q0, q1, fq⟩ := bx2 QW
  have hRs := RW.1
  clear hW
  go_region_held3 (fun w' => w'.cell? ⟨w.heap.size, 0, none⟩ = some (.slice A d.length c) ∧ w'.cell? ⟨w.heap.size + 1, 0, none⟩ = some (.string a.1) ∧ w'.cell? ⟨w.heap.size + 1, 1, none⟩ = some (.slice B a.2.length e)) (first | exact ⟨kp, kq, kq'⟩ | exact ⟨cell_st3 kp lpv (by omega), cell_st3 kq lqv (by omega), cell_st3 kq' lqv (by omega)⟩ | go_keep) (first
    | (go_at_call 109; refine (AtomVariables_any (by omega) (h2.toExt (trans_ext xW (by refine Chg.isExt (F := []) ?_ (refl_ext _) (by simp); repeat (with_reducible (first | exact Chg.refl _ _ | exact Nat.le_refl _ | exact Chg.ofExt (by assumption) | refine Chg.trans0 ?_ (by assumption) | refine Chg.extS ?_ _ | refine Chg.alloc ?_ _ | refine Chg.drew ?_ | refine Chg.setCellE ?_ ?_ _ | refine le_addk ?_ _ | refine le_ext ?_ | refine le_alloc ?_ _ | refine le_setC ?_ _ _ | refine le_drew ?_ | assumption | (refine Nat.le_of_lt ?_; omega) | omega)))))).mono ?_; rintro e wv ⟨vv, Fv, rfl, hxv, hSv, hFv⟩; obtain ⟨Av, cv, rfl, _, _⟩ := hSv.form; have hyv : ∃ y, wv = ext W y := (by refine Chg.isExt (F := []) ?_ (refl_ext _) (by simp); repeat (with_reducible (first | exact Chg.refl _ _ | exact Nat.le_refl _ | exact Chg.ofExt (by assumption) | refine Chg.trans0 ?_ (by assumption) | refine Chg.extS ?_ _ | refine Chg.alloc ?_ _ | refine Chg.drew ?_ | refine Chg.setCellE ?_ ?_ _ | refine le_addk ?_ _ | refine le_ext ?_ | refine le_alloc ?_ _ | refine le_setC ?_ _ _ | refine le_drew ?_ | assumption | (refine Nat.le_of_lt ?_; omega) | omega))); obtain ⟨lpv, kp, fpv⟩ := bx1 (PW.toExt hyv); obtain ⟨lqv, kq, kq', fqv⟩ := bx2 (QW.toExt hyv); obtain ⟨lv, r0v, r1v, r2v, frv⟩ := box3 (RW.toExt hyv))
    | (go_at_call 50; refine (AtomBindings_any HD.out (h1.toExt (trans_ext xW (by refine Chg.isExt (F := []) ?_ (refl_ext _) (by simp); repeat (with_reducible (first | exact Chg.refl _ _ | exact Nat.le_refl _ | exact Chg.ofExt (by assumption) | refine Chg.trans0 ?_ (by assumption) | refine Chg.extS ?_ _ | refine Chg.alloc ?_ _ | refine Chg.drew ?_ | refine Chg.setCellE ?_ ?_ _ | refine le_addk ?_ _ | refine le_ext ?_ | refine le_alloc ?_ _ | refine le_setC ?_ _ _ | refine le_drew ?_ | assumption | (refine Nat.le_of_lt ?_; omega) | omega))))) (by omega) (h2.toExt (trans_ext xW (by refine Chg.isExt (F := []) ?_ (refl_ext _) (by simp); repeat (with_reducible (first | exact Chg.refl _ _ | exact Nat.le_refl _ | exact Chg.ofExt (by assumption) | refine Chg.trans0 ?_ (by assumption) | refine Chg.extS ?_ _ | refine Chg.alloc ?_ _ | refine Chg.drew ?_ | refine Chg.setCellE ?_ ?_ _ | refine le_addk ?_ _ | refine le_ext ?_ | refine le_alloc ?_ _ | refine le_setC ?_ _ _ | refine le_drew ?_ | assumption | (refine Nat.le_of_lt ?_; omega) | omega)))))).mono ?_; rintro e wb ⟨u0, u1, Fb, rfl, hxb, hSb, hNb, hFb⟩; obtain ⟨Ab, cb, rfl, rfl, hIb⟩ := sRel_form hSb; have hyb : ∃ y, wb = ext W y := (by refine Chg.isExt (F := []) ?_ (refl_ext _) (by simp); repeat (with_reducible (first | exact Chg.refl _ _ | exact Nat.le_refl _ | exact Chg.ofExt (by assumption) | refine Chg.trans0 ?_ (by assumption) | refine Chg.extS ?_ _ | refine Chg.alloc ?_ _ | refine Chg.drew ?_ | refine Chg.setCellE ?_ ?_ _ | refine le_addk ?_ _ | refine le_ext ?_ | refine le_alloc ?_ _ | refine le_setC ?_ _ _ | refine le_drew ?_ | assumption | (refine Nat.le_of_lt ?_; omega) | omega))); obtain ⟨lpv, kp, fpv⟩ := bx1 (PW.toExt hyb); obtain ⟨lqv, kq, kq', fqv⟩ := bx2 (QW.toExt hyb); obtain ⟨lb, r0b, r1b, r2b, frb⟩ := box3 (RW.toExt hyb)))
  all_goals
    go_wp2_with fail
    have hzv := size_of_ext hyv
    have hzb := size_of_ext hyb
    have hlv := hSv.lt
    have hlb : ∀ b ∈ Fb, b < wb.heap.size := SMono.lt hSb
    have hSv2 : ∀ x ∈ Fv, W.heap.size ≤ x := fun x hx => Nat.le_trans (size_of_ext (by refine Chg.isExt (F := []) ?_ (refl_ext _) (by simp); repeat (with_reducible (first | exact Chg.refl _ _ | exact Nat.le_refl _ | exact Chg.ofExt (by assumption) | refine Chg.trans0 ?_ (by assumption) | refine Chg.extS ?_ _ | refine Chg.alloc ?_ _ | refine Chg.drew ?_ | refine Chg.setCellE ?_ ?_ _ | refine le_addk ?_ _ | refine le_ext ?_ | refine le_alloc ?_ _ | refine le_setC ?_ _ _ | refine le_drew ?_ | assumption | (refine Nat.le_of_lt ?_; omega) | omega)))) (hFv x hx)
    have hSb2 : ∀ x ∈ Fb, W.heap.size ≤ x := fun x hx => Nat.le_trans (size_of_ext (by refine Chg.isExt (F := []) ?_ (refl_ext _) (by simp); repeat (with_reducible (first | exact Chg.refl _ _ | exact Nat.le_refl _ | exact Chg.ofExt (by assumption) | refine Chg.trans0 ?_ (by assumption) | refine Chg.extS ?_ _ | refine Chg.alloc ?_ _ | refine Chg.drew ?_ | refine Chg.setCellE ?_ ?_ _ | refine le_addk ?_ _ | refine le_ext ?_ | refine le_alloc ?_ _ | refine le_setC ?_ _ _ | refine le_drew ?_ | assumption | (refine Nat.le_of_lt ?_; omega) | omega)))) (hFb x hx)
    refine bodyPost_ret (v := .agg #[.slice Av (avars 5 0 a.2).length cv, .int .i64 (atomBd d a).1, .slice Ab (atomBd d a).2.length cb]) (by simp [results, Try.results55, go_sem, *]) rfl ⟨_, _, _, Fv ++ Fb, rfl, (by refine Chg.isExt (F := []) ?_ (refl_ext _) (by simp); repeat (with_reducible (first | exact Chg.refl _ _ | exact Nat.le_refl _ | exact Chg.ofExt (by assumption) | refine Chg.trans0 ?_ (by assumption) | refine Chg.extS ?_ _ | refine Chg.alloc ?_ _ | refine Chg.drew ?_ | refine Chg.setCellE ?_ ?_ _ | refine le_addk ?_ _ | refine le_ext ?_ | refine le_alloc ?_ _ | refine le_setC ?_ _ _ | refine le_drew ?_ | assumption | (refine Nat.le_of_lt ?_; omega) | omega))), ?_, ?_, fun b hb => ?_⟩
    · first
        | exact sVR_mk (z := (atomBd d a).1) ((hSv.toExt hxb).chg (G := [w.heap.size + 1 + 1]) (by repeat (with_reducible (first | exact Chg.refl _ _ | refine Chg.trans0 ?_ (by assumption) | refine Chg.extS ?_ _ | refine Chg.alloc ?_ _ | refine Chg.drew ?_ | refine Chg.setCell ?_ (.inl (by simp)) _))) (fun b hb h => by have := hSv2 b hb; rw [List.mem_singleton.1 h] at this; omega)) (OD.chg (E := sII) (G := [w.heap.size + 1 + 1]) hIb (by repeat (with_reducible (first | exact Chg.refl _ _ | refine Chg.trans0 ?_ (by assumption) | refine Chg.extS ?_ _ | refine Chg.alloc ?_ _ | refine Chg.drew ?_ | refine Chg.setCell ?_ (.inl (by simp)) _))) (fun b hb h => by have := hSb2 b hb; rw [List.mem_singleton.1 h] at this; omega))
        | exact sVR_mk (z := (atomBd d a).1) (hSv.chg (G := [w.heap.size + 1 + 1]) (by repeat (with_reducible (first | exact Chg.refl _ _ | refine Chg.trans0 ?_ (by assumption) | refine Chg.extS ?_ _ | refine Chg.alloc ?_ _ | refine Chg.drew ?_ | refine Chg.setCell ?_ (.inl (by simp)) _))) (fun b hb h => by have := hSv2 b hb; rw [List.mem_singleton.1 h] at this; omega)) (OD.chg (E := sII) (G := [w.heap.size + 1 + 1]) (OD.toExt hIb hxv) (by repeat (with_reducible (first | exact Chg.refl _ _ | refine Chg.trans0 ?_ (by assumption) | refine Chg.extS ?_ _ | refine Chg.alloc ?_ _ | refine Chg.drew ?_ | refine Chg.setCell ?_ (.inl (by simp)) _))) (fun b hb h => by have := hSb2 b hb; rw [List.mem_singleton.1 h] at this; omega))
    · first
        | exact nodup_more hSv.nodup hNb hlv hFb
        | exact nodup_less hSv.nodup hNb hlb hFv
    · rcases List.mem_append.1 hb with h | h
      · have := hSv2 b h; omega
      · have := hSb2 b h; omega
set_option maxRecDepth 100000 in
set_option maxHeartbeats 8000000 in
theorem specAtomRelation_any {A B : Option Addr} {c e : Nat} {d : Dbd} {a : At} {w : World} (hd : WDb d) (h1 : RV 3 vTb w A d) (hx : a.2.length ≤ 1000000000) (h2 : RI w B a.2) :
    Calls Try.prog 54 #[.agg #[.slice A d.length c], .agg #[.string a.1, .slice B a.2.length e]] w (VRRes (atomVR d a) w) := by
  have HD := Lib.hid hd
  clear hd
  go_enter Try.func54, Try.ntmps54
  go_upto_region 1 with fail
  refine wp_name ?_
  intro W hW
  have xW : ∃ y, W = ext w y := by rw [hW.out]; exact (by refine Chg.isExt (F := []) ?_ (refl_ext _) (by simp); repeat (with_reducible (first | exact Chg.refl _ _ | exact Nat.le_refl _ | exact Chg.ofExt (by assumption) | refine Chg.trans0 ?_ (by assumption) | refine Chg.extS ?_ _ | refine Chg.alloc ?_ _ | refine Chg.drew ?_ | refine Chg.setCellE ?_ ?_ _ | refine le_addk ?_ _ | refine le_ext ?_ | refine le_alloc ?_ _ | refine le_setC ?_ _ _ | refine le_drew ?_ | assumption | (refine Nat.le_of_lt ?_; omega) | omega)))
  have PW : BoxAt W w.heap.size #[.slice A d.length c] := by rw [hW.out]; exact (by repeat (with_reducible (first | assumption | exact BoxAt.new _ _ _ | apply BoxAt.set10 | apply BoxAt.set2 | refine BoxAt.set2' ?_ (by omega) | apply BoxAt.setP0 | apply BoxAt.setP1 | refine BoxAt.setO ?_ (by omega) | refine BoxAt.alloc ?_ _ | refine BoxAt.drew ?_ | refine BoxAt.toExt ?_ (by assumption))))
  have QW : BoxAt W (w.heap.size + 1) #[.string a.1, .slice B a.2.length e] := by rw [hW.out]; refine ⟨?_, fun j => ?_, fun j => ?_⟩ <;> go_simp
  have RW : BoxAt W (w.heap.size + 1 + 1) #[.slice none 0 0, .int .i64 0, .slice none 0 0] := by rw [hW.out]; refine ⟨?_, fun j => ?_, fun j => ?_⟩ <;> go_simp
  obtain ⟨lp, p0, fp⟩ := bx1 PW
  obtain ⟨lq, q0, q1, fq⟩ := bx2 QW
  have hRs := RW.1
  clear hW
  go_region_held3 (fun w' => w'.cell? ⟨w.heap.size, 0, none⟩ = some (.slice A d.length c) ∧ w'.cell? ⟨w.heap.size + 1, 0, none⟩ = some (.string a.1) ∧ w'.cell? ⟨w.heap.size + 1, 1, none⟩ = some (.slice B a.2.length e)) (first | exact ⟨kp, kq, kq'⟩ | exact ⟨cell_st3 kp lpv (by omega), cell_st3 kq lqv (by omega), cell_st3 kq' lqv (by omega)⟩ | go_keep) (first
    | (go_at_call 108; refine (specAtomVariables_any (by omega) (h2.toExt (trans_ext xW (by refine Chg.isExt (F := []) ?_ (refl_ext _) (by simp); repeat (with_reducible (first | exact Chg.refl _ _ | exact Nat.le_refl _ | exact Chg.ofExt (by assumption) | refine Chg.trans0 ?_ (by assumption) | refine Chg.extS ?_ _ | refine Chg.alloc ?_ _ | refine Chg.drew ?_ | refine Chg.setCellE ?_ ?_ _ | refine le_addk ?_ _ | refine le_ext ?_ | refine le_alloc ?_ _ | refine le_setC ?_ _ _ | refine le_drew ?_ | assumption | (refine Nat.le_of_lt ?_; omega) | omega)))))).mono ?_; rintro e wv ⟨vv, Fv, rfl, hxv, hSv, hFv⟩; obtain ⟨Av, cv, rfl, _, _⟩ := hSv.form; have hyv : ∃ y, wv = ext W y := (by refine Chg.isExt (F := []) ?_ (refl_ext _) (by simp); repeat (with_reducible (first | exact Chg.refl _ _ | exact Nat.le_refl _ | exact Chg.ofExt (by assumption) | refine Chg.trans0 ?_ (by assumption) | refine Chg.extS ?_ _ | refine Chg.alloc ?_ _ | refine Chg.drew ?_ | refine Chg.setCellE ?_ ?_ _ | refine le_addk ?_ _ | refine le_ext ?_ | refine le_alloc ?_ _ | refine le_setC ?_ _ _ | refine le_drew ?_ | assumption | (refine Nat.le_of_lt ?_; omega) | omega))); obtain ⟨lpv, kp, fpv⟩ := bx1 (PW.toExt hyv); obtain ⟨lqv, kq, kq', fqv⟩ := bx2 (QW.toExt hyv); obtain ⟨lv, r0v, r1v, r2v, frv⟩ := box3 (RW.toExt hyv))
    | (go_at_call 48; refine (specAtomBindings_any HD.out (h1.toExt (trans_ext xW (by refine Chg.isExt (F := []) ?_ (refl_ext _) (by simp); repeat (with_reducible (first | exact Chg.refl _ _ | exact Nat.le_refl _ | exact Chg.ofExt (by assumption) | refine Chg.trans0 ?_ (by assumption) | refine Chg.extS ?_ _ | refine Chg.alloc ?_ _ | refine Chg.drew ?_ | refine Chg.setCellE ?_ ?_ _ | refine le_addk ?_ _ | refine le_ext ?_ | refine le_alloc ?_ _ | refine le_setC ?_ _ _ | refine le_drew ?_ | assumption | (refine Nat.le_of_lt ?_; omega) | omega))))) (by omega) (h2.toExt (trans_ext xW (by refine Chg.isExt (F := []) ?_ (refl_ext _) (by simp); repeat (with_reducible (first | exact Chg.refl _ _ | exact Nat.le_refl _ | exact Chg.ofExt (by assumption) | refine Chg.trans0 ?_ (by assumption) | refine Chg.extS ?_ _ | refine Chg.alloc ?_ _ | refine Chg.drew ?_ | refine Chg.setCellE ?_ ?_ _ | refine le_addk ?_ _ | refine le_ext ?_ | refine le_alloc ?_ _ | refine le_setC ?_ _ _ | refine le_drew ?_ | assumption | (refine Nat.le_of_lt ?_; omega) | omega)))))).mono ?_; rintro e wb ⟨u0, u1, Fb, rfl, hxb, hSb, hNb, hFb⟩; obtain ⟨Ab, cb, rfl, rfl, hIb⟩ := sRel_form hSb; have hyb : ∃ y, wb = ext W y := (by refine Chg.isExt (F := []) ?_ (refl_ext _) (by simp); repeat (with_reducible (first | exact Chg.refl _ _ | exact Nat.le_refl _ | exact Chg.ofExt (by assumption) | refine Chg.trans0 ?_ (by assumption) | refine Chg.extS ?_ _ | refine Chg.alloc ?_ _ | refine Chg.drew ?_ | refine Chg.setCellE ?_ ?_ _ | refine le_addk ?_ _ | refine le_ext ?_ | refine le_alloc ?_ _ | refine le_setC ?_ _ _ | refine le_drew ?_ | assumption | (refine Nat.le_of_lt ?_; omega) | omega))); obtain ⟨lpv, kp, fpv⟩ := bx1 (PW.toExt hyb); obtain ⟨lqv, kq, kq', fqv⟩ := bx2 (QW.toExt hyb); obtain ⟨lb, r0b, r1b, r2b, frb⟩ := box3 (RW.toExt hyb)))
  all_goals
    go_wp2_with fail
    have hzv := size_of_ext hyv
    have hzb := size_of_ext hyb
    have hlv := hSv.lt
    have hlb : ∀ b ∈ Fb, b < wb.heap.size := SMono.lt hSb
    have hSv2 : ∀ x ∈ Fv, W.heap.size ≤ x := fun x hx => Nat.le_trans (size_of_ext (by refine Chg.isExt (F := []) ?_ (refl_ext _) (by simp); repeat (with_reducible (first | exact Chg.refl _ _ | exact Nat.le_refl _ | exact Chg.ofExt (by assumption) | refine Chg.trans0 ?_ (by assumption) | refine Chg.extS ?_ _ | refine Chg.alloc ?_ _ | refine Chg.drew ?_ | refine Chg.setCellE ?_ ?_ _ | refine le_addk ?_ _ | refine le_ext ?_ | refine le_alloc ?_ _ | refine le_setC ?_ _ _ | refine le_drew ?_ | assumption | (refine Nat.le_of_lt ?_; omega) | omega)))) (hFv x hx)
    have hSb2 : ∀ x ∈ Fb, W.heap.size ≤ x := fun x hx => Nat.le_trans (size_of_ext (by refine Chg.isExt (F := []) ?_ (refl_ext _) (by simp); repeat (with_reducible (first | exact Chg.refl _ _ | exact Nat.le_refl _ | exact Chg.ofExt (by assumption) | refine Chg.trans0 ?_ (by assumption) | refine Chg.extS ?_ _ | refine Chg.alloc ?_ _ | refine Chg.drew ?_ | refine Chg.setCellE ?_ ?_ _ | refine le_addk ?_ _ | refine le_ext ?_ | refine le_alloc ?_ _ | refine le_setC ?_ _ _ | refine le_drew ?_ | assumption | (refine Nat.le_of_lt ?_; omega) | omega)))) (hFb x hx)
    refine bodyPost_ret (v := .agg #[.slice Av (avars 5 0 a.2).length cv, .int .i64 (atomBd d a).1, .slice Ab (atomBd d a).2.length cb]) (by simp [results, Try.results54, go_sem, *]) rfl ⟨_, _, _, Fv ++ Fb, rfl, (by refine Chg.isExt (F := []) ?_ (refl_ext _) (by simp); repeat (with_reducible (first | exact Chg.refl _ _ | exact Nat.le_refl _ | exact Chg.ofExt (by assumption) | refine Chg.trans0 ?_ (by assumption) | refine Chg.extS ?_ _ | refine Chg.alloc ?_ _ | refine Chg.drew ?_ | refine Chg.setCellE ?_ ?_ _ | refine le_addk ?_ _ | refine le_ext ?_ | refine le_alloc ?_ _ | refine le_setC ?_ _ _ | refine le_drew ?_ | assumption | (refine Nat.le_of_lt ?_; omega) | omega))), ?_, ?_, fun b hb => ?_⟩
    · first
        | exact sVR_mk (z := (atomBd d a).1) ((hSv.toExt hxb).chg (G := [w.heap.size + 1 + 1]) (by repeat (with_reducible (first | exact Chg.refl _ _ | refine Chg.trans0 ?_ (by assumption) | refine Chg.extS ?_ _ | refine Chg.alloc ?_ _ | refine Chg.drew ?_ | refine Chg.setCell ?_ (.inl (by simp)) _))) (fun b hb h => by have := hSv2 b hb; rw [List.mem_singleton.1 h] at this; omega)) (OD.chg (E := sII) (G := [w.heap.size + 1 + 1]) hIb (by repeat (with_reducible (first | exact Chg.refl _ _ | refine Chg.trans0 ?_ (by assumption) | refine Chg.extS ?_ _ | refine Chg.alloc ?_ _ | refine Chg.drew ?_ | refine Chg.setCell ?_ (.inl (by simp)) _))) (fun b hb h => by have := hSb2 b hb; rw [List.mem_singleton.1 h] at this; omega))
        | exact sVR_mk (z := (atomBd d a).1) (hSv.chg (G := [w.heap.size + 1 + 1]) (by repeat (with_reducible (first | exact Chg.refl _ _ | refine Chg.trans0 ?_ (by assumption) | refine Chg.extS ?_ _ | refine Chg.alloc ?_ _ | refine Chg.drew ?_ | refine Chg.setCell ?_ (.inl (by simp)) _))) (fun b hb h => by have := hSv2 b hb; rw [List.mem_singleton.1 h] at this; omega)) (OD.chg (E := sII) (G := [w.heap.size + 1 + 1]) (OD.toExt hIb hxv) (by repeat (with_reducible (first | exact Chg.refl _ _ | refine Chg.trans0 ?_ (by assumption) | refine Chg.extS ?_ _ | refine Chg.alloc ?_ _ | refine Chg.drew ?_ | refine Chg.setCell ?_ (.inl (by simp)) _))) (fun b hb h => by have := hSb2 b hb; rw [List.mem_singleton.1 h] at this; omega))
    · first
        | exact nodup_more hSv.nodup hNb hlv hFb
        | exact nodup_less hSv.nodup hNb hlb hFv
    · rcases List.mem_append.1 hb with h | h
      · have := hSv2 b h; omega
      · have := hSb2 b h; omega
theorem AtomRelation_x {A B : Option Addr} {c e : Nat} {d : Dbd} {s : ByteArray} {xs : List Int} {w : World} (hd : WDb d) (h1 : RV 3 vTb w A d) (hx : xs.length ≤ 1000000000) (h2 : RI w B xs) :
    Calls Try.prog 55 #[.agg #[.slice A d.length c], .agg #[.string s, .slice B xs.length e]] w (VRRes (atomVR d (s, xs)) w) := AtomRelation_any (a := (s, xs)) hd h1 hx h2
theorem specAtomRelation_x {A B : Option Addr} {c e : Nat} {d : Dbd} {s : ByteArray} {xs : List Int} {w : World} (hd : WDb d) (h1 : RV 3 vTb w A d) (hx : xs.length ≤ 1000000000) (h2 : RI w B xs) :
    Calls Try.prog 54 #[.agg #[.slice A d.length c], .agg #[.string s, .slice B xs.length e]] w (VRRes (atomVR d (s, xs)) w) := specAtomRelation_any (a := (s, xs)) hd h1 hx h2
end Go.Proofs.Ytgoleefkbjjidaa
