/- Contracts of functions that the statement reaches. -/
import Derived.Test.YtfigcfajkilhiaaGreatE24
namespace Go.Proofs.YtfigcfajkilhiaaGreat
open Go.RowKit
def botF (va vb : List Int) (k : Nat) : List Nat := (List.range k).filter fun i => decide (va.getD i 0 ∈ vb)
def botX (va vb : List Int) (k : Nat) : List Int := (botF va vb k).map fun (i : Nat) => (i : Int)
def botY (va vb : List Int) (k : Nat) : List Int := (botF va vb k).map fun (i : Nat) => iof 0 (va.getD i 0) vb
theorem botF_step {va vb : List Int} {k : Nat} : botF va vb (k + 1) = botF va vb k ++ (if va.getD k 0 ∈ vb then [k] else []) := by
  unfold botF
  rw [List.range_succ, List.filter_append, List.filter_cons, List.filter_nil]
  by_cases h : va.getD k 0 ∈ vb
  · rw [if_pos (show decide (va.getD k 0 ∈ vb) = true from decide_eq_true h), if_pos h]
  · rw [if_neg (show ¬ decide (va.getD k 0 ∈ vb) = true by simpa using h), if_neg h]
theorem botX_yes {va vb : List Int} {k : Nat} (h : va.getD k 0 ∈ vb) : botX va vb (k + 1) = botX va vb k ++ [(k : Int)] := by unfold botX; rw [botF_step, if_pos h, List.map_append]; rfl
theorem botY_yes {va vb : List Int} {k : Nat} (h : va.getD k 0 ∈ vb) : botY va vb (k + 1) = botY va vb k ++ [iof 0 (va.getD k 0) vb] := by unfold botY; rw [botF_step, if_pos h, List.map_append]; rfl
theorem botX_no {va vb : List Int} {k : Nat} (h : va.getD k 0 ∉ vb) : botX va vb (k + 1) = botX va vb k := by unfold botX; rw [botF_step, if_neg h, List.append_nil]
theorem botY_no {va vb : List Int} {k : Nat} (h : va.getD k 0 ∉ vb) : botY va vb (k + 1) = botY va vb k := by unfold botY; rw [botF_step, if_neg h, List.append_nil]
theorem botF_len {va vb : List Int} {k : Nat} : (botF va vb k).length ≤ k := Nat.le_trans (List.length_filter_le _ _) (by simp)
theorem botX_len {va vb : List Int} {k : Nat} : (botX va vb k).length ≤ k := by unfold botX; rw [List.length_map]; exact botF_len
theorem botY_len {va vb : List Int} {k : Nat} : (botY va vb k).length ≤ k := by unfold botY; rw [List.length_map]; exact botF_len
theorem botX_in {va vb : List Int} {k : Nat} : ∀ v ∈ botX va vb k, 0 ≤ v ∧ v < k := fun v hv => by
  unfold botX botF at hv
  obtain ⟨i, hi, rfl⟩ := List.mem_map.1 hv
  have := List.mem_range.1 (List.mem_filter.1 hi).1
  omega
theorem botY_in {va vb : List Int} {k : Nat} : ∀ v ∈ botY va vb k, 0 ≤ v ∧ v < vb.length := fun v hv => by
  unfold botY botF at hv
  obtain ⟨i, hi, rfl⟩ := List.mem_map.1 hv
  have hm : va.getD i 0 ∈ vb := by simpa using (List.mem_filter.1 hi).2
  obtain ⟨p, h1, h2⟩ := iof_get (k := 0) hm
  have := (List.getElem?_eq_some_iff.1 h2).1
  rw [h1]
  omega
theorem both_agree {va vb r s : List Int} (hn : va.Nodup) (_hr : r.length = va.length) : (pickL r (botX va vb va.length) = pickL s (botY va vb va.length)) ↔ agreeB va r vb s = true := by
  unfold pickL botX botY
  rw [List.map_map, List.map_map, List.map_inj_left, agreeB_iff]
  constructor
  · intro h v hv hb
    obtain ⟨i, hi, rfl⟩ := List.getElem_of_mem hv
    have := h i (List.mem_filter.2 ⟨List.mem_range.2 hi, by rw [getDl _ _ hi]; simpa using hb⟩)
    simp only [Function.comp, Int.toNat_natCast] at this
    rw [getDl va _ hi] at this
    unfold valAt
    rw [iof_nodup hn hi, Int.toNat_natCast, Nat.zero_add, this]
  · intro h i hi
    have hi2 := List.mem_filter.1 hi
    have hl := List.mem_range.1 hi2.1
    have hb : va.getD i 0 ∈ vb := by simpa using hi2.2
    simp only [Function.comp, Int.toNat_natCast]
    rw [getDl va _ hl] at hb ⊢
    have := h _ (List.getElem_mem hl) hb
    unfold valAt at this
    rwa [iof_nodup hn hl, Int.toNat_natCast, Nat.zero_add] at this
def allV (va vb : List Int) : List Int := selF (fun v => decide (v ∈ va) || decide (v ∈ vb)) 5 0
theorem allV_eq {a b : VRd} (ha : VrOk a) (hb : VrOk b) : allV a.1 b.1 = uniL a.1 b.1 := asc_ext (asc_selF _ _) (asc_uniL ha.asc) fun x => by
  unfold allV
  rw [mem_selF, mem_uniL]
  simp only [Bool.or_eq_true, decide_eq_true_eq]
  constructor
  · exact fun h => h.2.2
  · intro h
    have : 0 ≤ x ∧ x ≤ 4 := by
      rcases h with h | h
      · exact ha.lo x h
      · exact hb.lo x h
    exact ⟨by omega, by omega, h⟩
def BotP (va vb : List Int) (w : World) (e : Ending) (w' : World) : Prop := ∃ Ax cx Ay cy, e = .returned (.tuple #[.slice Ax (botX va vb va.length).length cx, .slice Ay (botY va vb va.length).length cy]) ∧ RI w' Ax (botX va vb va.length) ∧ RI w' Ay (botY va vb va.length) ∧ ∃ y, w' = ext w y
set_option maxRecDepth 100000 in
set_option maxHeartbeats 8000000 in
theorem l11Both_any {A B A' B' : Option Addr} {a b a' b' n m : Nat} {z z' : Int} {va vb : List Int} {w : World} (hx : va.length ≤ 1000000) (h1 : RI w A va) (hy : vb.length ≤ 1000000) (h2 : RI w A' vb) :
    Calls Tryz.prog 71 #[.agg #[.slice A va.length a, .int .i64 z, .slice B n b], .agg #[.slice A' vb.length a', .int .i64 z', .slice B' m b']] w (BotP va vb w) := by
  go_enter Tryz.func71, Tryz.ntmps71
  go_upto_region 1 with fail
  refine wp_name ?_
  intro W hW
  have xW : ∃ y, W = ext w y := by rw [hW.out]; exact (by refine x'z ?_; repeat (with_reducible (first | exact x'a _ _ | exact x'b _ | exact x'c (by assumption) | refine x'd ?_ (by assumption) | refine x'e ?_ _ | refine x'f ?_ _ | refine x'g ?_ | refine x'h ?_ ?_ _ | refine x'i ?_ _ | refine x'j ?_ | refine x'k ?_ _ | refine x'l ?_ _ _ | refine x'm ?_ | assumption | (refine x'n ?_; omega) | omega)))
  have BW0 : BoxAt W (w.heap.size) #[.slice A va.length a, .int .i64 z, .slice B n b] := by rw [hW.out]; refine ⟨?_, fun j => ?_, fun j => ?_⟩ <;> go_simp
  obtain ⟨lW0, bW0, fW0⟩ := BW0
  have cW0_0 : W.cell? ⟨w.heap.size, 0, none⟩ = some (.slice A va.length a) := bW0 0
  have cW0_1 : W.cell? ⟨w.heap.size, 1, none⟩ = some (.int .i64 z) := bW0 1
  have cW0_2 : W.cell? ⟨w.heap.size, 2, none⟩ = some (.slice B n b) := bW0 2
  have BW1 : BoxAt W (w.heap.size + 1) #[.slice A' vb.length a', .int .i64 z', .slice B' m b'] := by rw [hW.out]; refine ⟨?_, fun j => ?_, fun j => ?_⟩ <;> go_simp
  obtain ⟨lW1, bW1, fW1⟩ := BW1
  have cW1_0 : W.cell? ⟨w.heap.size + 1, 0, none⟩ = some (.slice A' vb.length a') := bW1 0
  have cW1_1 : W.cell? ⟨w.heap.size + 1, 1, none⟩ = some (.int .i64 z') := bW1 1
  have cW1_2 : W.cell? ⟨w.heap.size + 1, 2, none⟩ = some (.slice B' m b') := bW1 2
  clear hW
  have PW : BoxAt W w.heap.size #[.slice A va.length a, .int .i64 z, .slice B n b] := ⟨lW0, bW0, fW0⟩
  have QW : BoxAt W (w.heap.size + 1) #[.slice A' vb.length a', .int .i64 z', .slice B' m b'] := ⟨lW1, bW1, fW1⟩
  have hX0 := SV.empty (α := Int) (te := 3) (size := 1) (E := sI) W
  have hY0 := SV.empty (α := Int) (te := 3) (size := 1) (E := sI) (W.alloc (.cells #[] 3))
  clear lW0 bW0 fW0 cW0_0 cW0_1 cW0_2 lW1 bW1 fW1 cW1_0 cW1_1 cW1_2
  go_wp2_with fail
  go_loopw [6, 7, 8] (fun x y i wr => ∃ (k : Nat) (Fx Fy : List Nat), i = .int .i64 k ∧ k ≤ va.length ∧ SV 3 1 sI wr x (botX va vb k) Fx ∧ SV 3 1 sI wr y (botY va vb k) Fy ∧ Hid (∀ b ∈ Fx, W.heap.size ≤ b ∧ b ∉ Fy) ∧ Hid (∀ b ∈ Fy, W.heap.size ≤ b) ∧ ∃ q, wr = ext W q) (fun _ _ i _ => va.length - (intOf i).toNat)
  case atStart => exact ⟨0, _, _, rfl, by omega, by simpa [botX, botF] using hX0.toExt (alloc_ext _ _), by simpa [botY, botF] using hY0, Lib.hid (by simp), Lib.hid (by simp), (by refine x'z ?_; repeat (with_reducible (first | exact x'a _ _ | exact x'b _ | exact x'c (by assumption) | refine x'd ?_ (by assumption) | refine x'e ?_ _ | refine x'f ?_ _ | refine x'g ?_ | refine x'h ?_ ?_ _ | refine x'i ?_ _ | refine x'j ?_ | refine x'k ?_ _ | refine x'l ?_ _ _ | refine x'm ?_ | assumption | (refine x'n ?_; omega) | omega)))⟩
  case round =>
    obtain ⟨k, Fx, Fy, rfl, hk, hSx, hSy, HFx, HFy, hq⟩ := hrel
    have hw := trans_ext xW hq
    obtain ⟨lp, p0, p1, p2, fp⟩ := box3 (PW.toExt hq)
    obtain ⟨lq, q0, q1, q2, fq⟩ := box3 (QW.toExt hq)
    by_cases hlt : k < va.length
    · obtain ⟨bv, ov, rfl, hbv, hcv⟩ := (h1.toExt hw).atI' hlt
      have HYX := Lib.hid (fun h => botX_yes (va := va) (vb := vb) (k := k) h)
      have HYY := Lib.hid (fun h => botY_yes (va := va) (vb := vb) (k := k) h)
      have HNX := Lib.hid (fun h => botX_no (va := va) (vb := vb) (k := k) h)
      have HNY := Lib.hid (fun h => botY_no (va := va) (vb := vb) (k := k) h)
      obtain ⟨v, hv⟩ : ∃ v, va.getD k 0 = v := ⟨_, rfl⟩
      rw [hv] at hcv HYX HYY HNX HNY
      clear hv
      have hlx : (botX va vb k).length + 1 ≤ 2000000000 := by have := botX_len (va := va) (vb := vb) (k := k); omega
      have hly : (botY va vb k).length + 1 ≤ 2000000000 := by have := botY_len (va := va) (vb := vb) (k := k); omega
      have h2r := h2.toExt hw
      obtain ⟨j, hj⟩ : ∃ j, iof 0 v vb = j := ⟨_, rfl⟩
      rw [hj] at HYY
      have HJ := Lib.hid hj
      have hlx2 := hSx.lt
      have hly2 := hSy.lt
      have HXl := Lib.hid hlx2
      have HYl := Lib.hid hly2
      clear hlx2 hly2
      by_cases hm : v ∈ vb
      · have hj0 : 0 ≤ j := by rw [← hj]; exact (iof_nonneg 0 vb).2 hm
        have HEX := Lib.hid (HYX.out hm)
        have HEY := Lib.hid (HYY.out hm)
        clear hj hm
        go_wp2_with fail
        refine wp_region_ext (by kernel_rfl) (by kernel_rfl) ?_
        repeat (go_big_quiet_step ((go_at_call 89; exact quietEj (l7Find_any (by omega) (h2r.toExt (by refine x'z ?_; repeat (with_reducible (first | exact x'a _ _ | exact x'b _ | exact x'c (by assumption) | refine x'd ?_ (by assumption) | refine x'e ?_ _ | refine x'f ?_ _ | refine x'g ?_ | refine x'h ?_ ?_ _ | refine x'i ?_ _ | refine x'j ?_ | refine x'k ?_ _ | refine x'l ?_ _ _ | refine x'm ?_ | assumption | (refine x'n ?_; omega) | omega))))) HJ.out)))
        refine wpQuiet_nil ?_
        rintro _ ⟨zz, rfl⟩
        have hSx := hSx.toExt (⟨zz, rfl⟩ : ∃ y, ext wr zz = ext wr y)
        have hSy := hSy.toExt (⟨zz, rfl⟩ : ∃ y, ext wr zz = ext wr y)
        have hq1 : ∃ y, ext wr zz = ext W y := trans_ext hq ⟨zz, rfl⟩
        go_wp2_with (first
          | (at_builtin; refine wpList_app1 (E := sI) (d := (k : Int)) rfl _ _ _ rfl tI rfl rfl rfl (by simp) (fun _ => ⟨rfl, rfl⟩) rfl (by simp [Value.oneCell']) hSx hlx (by omega) ?_; intro v5 w5 F5 hS5 hC5 hF5; have hSy5 := hSy.chg hC5 (fun b hb h => (HFx.out b h).2 hb))
          | (at_builtin; refine wpList_app1 (E := sI) (d := j) rfl _ _ _ rfl tI rfl rfl rfl (by simp) (fun _ => ⟨rfl, rfl⟩) rfl (by simp [Value.oneCell']) hSy5 hly (by omega) ?_; intro v6 w6 F6 hS6 hC6 hF6))
        have hn5 : ∀ b ∈ F5, b ∉ Fy := fun b hb h => by
          rcases hF5 b hb with k | k
          · exact (HFx.out b k).2 h
          · have := hSy.lt b h; omega
        have hq5 := hC5.isExt hq1 (fun b hb => (HFx.out b hb).1)
        have hz5 := hC5.size
        refine ⟨⟨k + 1, F5, F6, by go_num, by omega, by rw [HEX.out]; exact hS5.chg hC6 hn5, by rw [HEY.out]; exact hS6, Lib.hid (fun b hb => ⟨?_, fun h => ?_⟩), Lib.hid (fun b hb => ?_), hC6.isExt hq5 HFy.out⟩, by simp [intOf]; omega⟩
        · rcases hF5 b hb with k | k
          · exact (HFx.out b k).1
          · have := size_of_ext hq1; omega
        · rcases hF6 b h with k | k
          · exact hn5 b hb k
          · have := hS5.lt b hb; omega
        · rcases hF6 b hb with k | k
          · exact HFy.out b k
          · have := size_of_ext hq5; omega
      · have hj0 : j = -1 := by rw [← hj]; exact iof_none hm
        have HEX := Lib.hid (HNX.out hm)
        have HEY := Lib.hid (HNY.out hm)
        subst hj0
        clear hj hm
        go_wp2_with fail
        refine wp_region_ext (by kernel_rfl) (by kernel_rfl) ?_
        repeat (go_big_quiet_step ((go_at_call 89; exact quietEj (l7Find_any (by omega) (h2r.toExt (by refine x'z ?_; repeat (with_reducible (first | exact x'a _ _ | exact x'b _ | exact x'c (by assumption) | refine x'd ?_ (by assumption) | refine x'e ?_ _ | refine x'f ?_ _ | refine x'g ?_ | refine x'h ?_ ?_ _ | refine x'i ?_ _ | refine x'j ?_ | refine x'k ?_ _ | refine x'l ?_ _ _ | refine x'm ?_ | assumption | (refine x'n ?_; omega) | omega))))) HJ.out)))
        refine wpQuiet_nil ?_
        rintro _ ⟨zz, rfl⟩
        have hSx := hSx.toExt (⟨zz, rfl⟩ : ∃ y, ext wr zz = ext wr y)
        have hSy := hSy.toExt (⟨zz, rfl⟩ : ∃ y, ext wr zz = ext wr y)
        go_wp2
        exact ⟨⟨k + 1, Fx, Fy, by go_num, by omega, by rw [HEX.out]; exact hSx, by rw [HEY.out]; exact hSy, HFx, HFy, trans_ext hq ⟨zz, rfl⟩⟩, by simp [intOf]; omega⟩
    · obtain rfl : k = va.length := by omega
      obtain ⟨Ax, cx, rfl, _, _, rx⟩ := hSx.view sI_v
      obtain ⟨Ay, cy, rfl, _, _, ry⟩ := hSy.view sI_v
      go_wp2
      go_ret2
      exact ⟨Ax, cx, Ay, cy, rfl, rx, ry, hw⟩
set_option maxHeartbeats 4000000 in
theorem l11Vars_any {A A' : Option Addr} {a a' : Nat} {va vb : List Int} {w : World} (hx : va.length ≤ 1000000) (h1 : RI w A va) (hy : vb.length ≤ 1000000) (h2 : RI w A' vb) :
    Calls Tryz.prog 87 #[.slice A va.length a, .slice A' vb.length a'] w fun e w' => ∃ v F, e = .returned v ∧ (∃ y, w' = ext w y) ∧ SV 3 1 sI w' v (allV va vb) F ∧ ∀ b ∈ F, w.heap.size ≤ b := by
  have hS0 := SV.empty (α := Int) (te := 3) (size := 1) (E := sI) w
  go_enter Tryz.func87, Tryz.ntmps87
  go_wp2
  go_loopw [5, 6] (fun v i wr => ∃ (k : Nat) (out : List Int) (F : List Nat), i = .int .i64 k ∧ k ≤ 5 ∧ out.length ≤ k ∧ Hid (out ++ selF (fun v => decide (v ∈ va) || decide (v ∈ vb)) (5 - k) k = allV va vb) ∧ SV 3 1 sI wr v out F ∧ Hid (∀ b ∈ F, w.heap.size ≤ b) ∧ (∃ y, wr = ext w y)) (fun _ i _ => 5 - (intOf i).toNat)
  case atStart => exact ⟨0, [], _, rfl, by omega, by simp, Lib.hid (by simp [allV]), hS0, Lib.hid (by simp), alloc_ext _ _⟩
  case round =>
    obtain ⟨k, out, F, rfl, hk, ho, HO, hS, HF, hw⟩ := hrel
    by_cases hlt : k < 5
    · have e := HO.out
      rw [selF_step hlt] at e
      obtain ⟨i, hi⟩ : ∃ i, iof 0 (k : Int) va = i := ⟨_, rfl⟩
      obtain ⟨j, hj⟩ : ∃ j, iof 0 (k : Int) vb = j := ⟨_, rfl⟩
      have HI := Lib.hid hi
      have HJ := Lib.hid hj
      have h1r := h1.toExt hw
      have h2r := h2.toExt hw
      have hlk : out.length + 1 ≤ 2000000000 := by omega
      by_cases m1 : (k : Int) ∈ va
      · have hi0 : 0 ≤ i := by rw [← hi]; exact (iof_nonneg 0 va).2 m1
        rw [if_pos (by simp [m1])] at e
        have He := Lib.hid e
        clear e hi hj m1
        go_wp2_with (first
          | (go_at_call 89; refine (l7Find_any (xs := va) (by omega) h1r).mono ?_; rintro e w1 ⟨rfl, hx1⟩; rw [HI.out])
          | (at_builtin; refine wpList_app1 (E := sI) (d := (k : Int)) rfl _ _ _ rfl tI rfl rfl rfl (by simp) (fun _ => ⟨rfl, rfl⟩) rfl (by simp [Value.oneCell']) (hS.toExt hx1) hlk (by omega) ?_; intro v5 w5 F5 hS5 hC5 hF5))
        exact ⟨⟨k + 1, out ++ [(k : Int)], F5, by go_num, by omega, by simp; omega, Lib.hid (by simpa using He.out), hS5, Lib.hid (newer HF.out (size_of_ext (trans_ext hw hx1)) hF5), hC5.isExt (trans_ext hw hx1) HF.out⟩, by simp [intOf]; omega⟩
      · have hi0 : i = -1 := by rw [← hi]; exact iof_none m1
        subst hi0
        by_cases m2 : (k : Int) ∈ vb
        · have hj0 : 0 ≤ j := by rw [← hj]; exact (iof_nonneg 0 vb).2 m2
          rw [if_pos (by simp [m2])] at e
          have He := Lib.hid e
          clear e hi hj m1 m2
          go_wp2_with (first
            | (go_at_call 89; with_reducible refine (l7Find_any (xs := va) (by omega) h1r).mono ?_; rintro e w1 ⟨rfl, hx1⟩; rw [HI.out])
            | (go_at_call 89; with_reducible refine (l7Find_any (xs := vb) (by omega) (h2r.toExt hx1)).mono ?_; rintro e w2 ⟨rfl, hx2⟩; rw [HJ.out])
            | (at_builtin; refine wpList_app1 (E := sI) (d := (k : Int)) rfl _ _ _ rfl tI rfl rfl rfl (by simp) (fun _ => ⟨rfl, rfl⟩) rfl (by simp [Value.oneCell']) ((hS.toExt hx1).toExt hx2) hlk (by omega) ?_; intro v5 w5 F5 hS5 hC5 hF5))
          have hw2 := trans_ext (trans_ext hw hx1) hx2
          exact ⟨⟨k + 1, out ++ [(k : Int)], F5, by go_num, by omega, by simp; omega, Lib.hid (by simpa using He.out), hS5, Lib.hid (newer HF.out (size_of_ext hw2) hF5), hC5.isExt hw2 HF.out⟩, by simp [intOf]; omega⟩
        · have hj0 : j = -1 := by rw [← hj]; exact iof_none m2
          subst hj0
          rw [if_neg (by simp [m1, m2])] at e
          have He := Lib.hid e
          clear e hi hj m1 m2
          go_wp2_with (first
            | (go_at_call 89; with_reducible refine (l7Find_any (xs := va) (by omega) h1r).mono ?_; rintro e w1 ⟨rfl, hx1⟩; rw [HI.out])
            | (go_at_call 89; with_reducible refine (l7Find_any (xs := vb) (by omega) (h2r.toExt hx1)).mono ?_; rintro e w2 ⟨rfl, hx2⟩; rw [HJ.out]))
          exact ⟨⟨k + 1, out, F, by go_num, by omega, by omega, Lib.hid He.out, (hS.toExt hx1).toExt hx2, HF, trans_ext (trans_ext hw hx1) hx2⟩, by simp [intOf]; omega⟩
    · obtain rfl : k = 5 := by omega
      have HE := Lib.hid (show out = allV va vb by rw [← HO.out]; simp [selF])
      go_wp2
      go_ret
      exact ⟨_, F, rfl, hw, by rw [← HE.out]; exact hS, HF.out⟩
end Go.Proofs.YtfigcfajkilhiaaGreat
