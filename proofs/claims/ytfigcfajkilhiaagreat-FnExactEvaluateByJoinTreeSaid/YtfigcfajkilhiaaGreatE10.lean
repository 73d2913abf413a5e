/- Contracts of functions that the statement reaches. -/
import Derived.Test.YtfigcfajkilhiaaGreatE06
namespace Go.Proofs.YtfigcfajkilhiaaGreat
open Go.RowKit
set_option maxHeartbeats 2000000 in
theorem l5Place_any {z : Int} {A A' : Option Addr} {c c' : Nat} {rows : List (List Int)} {row : List Int} {w : World} (hx : rows.length ≤ 1000000000) (hxl : ∀ x ∈ rows, x.length ≤ 1000000000) (h1 : RII w A rows) (hr : row.length ≤ 1000000000) (h2 : RI w A' row) :
    Calls Tryz.prog 72 #[.agg #[.int .i64 z, .slice A rows.length c], .slice A' row.length c'] w (PlP rows row w) := by
  have Hxl := Lib.hid hxl
  clear hxl
  go_enter Tryz.func72, Tryz.ntmps72
  go_upto_region 1 with fail
  refine wp_name ?_
  intro W hW
  have xW : ∃ y, W = ext w y := by rw [hW.out]; exact (by refine x'z ?_; repeat (with_reducible (first | exact x'a _ _ | exact x'b _ | exact x'c (by assumption) | refine x'd ?_ (by assumption) | refine x'e ?_ _ | refine x'f ?_ _ | refine x'g ?_ | refine x'h ?_ ?_ _ | refine x'i ?_ _ | refine x'j ?_ | refine x'k ?_ _ | refine x'l ?_ _ _ | refine x'm ?_ | assumption | (refine x'n ?_; omega) | omega)))
  have BW0 : BoxAt W (w.heap.size) #[.int .i64 z, .slice A rows.length c] := by rw [hW.out]; refine ⟨?_, fun j => ?_, fun j => ?_⟩ <;> go_simp
  obtain ⟨lW0, bW0, fW0⟩ := BW0
  have cW0_0 : W.cell? ⟨w.heap.size, 0, none⟩ = some (.int .i64 z) := bW0 0
  have cW0_1 : W.cell? ⟨w.heap.size, 1, none⟩ = some (.slice A rows.length c) := bW0 1
  clear hW
  have PW : BoxAt W w.heap.size #[.int .i64 z, .slice A rows.length c] := ⟨lW0, bW0, fW0⟩
  go_wp2
  clear lW0 bW0 fW0 cW0_0 cW0_1
  go_loopw [6, 7] (fun l h wr => ∃ lo hi : Nat, l = .int .i64 lo ∧ h = .int .i64 hi ∧ lo ≤ hi ∧ hi ≤ rows.length ∧ Hid (PlI rows row lo hi) ∧ (∃ y, wr = ext W y)) (fun l h _ => (intOf h).toNat - (intOf l).toNat)
  case atStart => exact ⟨0, rows.length, rfl, rfl, by omega, by omega, Lib.hid (PlI.start _ _), refl_ext W⟩
  case round =>
    obtain ⟨lo, hi, rfl, rfl, hlh, hhl, HP, hy⟩ := hrel
    obtain ⟨l1, a1, a1', f1⟩ := bx2 (PW.toExt hy)
    have hw := trans_ext xW hy
    by_cases hlt : lo < hi
    · have hm1 : lo ≤ (lo + hi) / 2 := by omega
      have hm2 : (lo + hi) / 2 < hi := by omega
      have HM := Lib.hid (show ((lo : Int) + (hi : Int)) / 2 = (((lo + hi) / 2 : Nat) : Int) by omega)
      obtain ⟨m, hm⟩ : ∃ m, (lo + hi) / 2 = m := ⟨_, rfl⟩
      rw [hm] at hm1 hm2 HM
      clear hm
      have hml : m < rows.length := by omega
      obtain ⟨b, o, A1, c1, rfl, hb, hc, hv⟩ := (h1.toExt hw).atV hml
      have lx := Hxl.out rows[m] (List.getElem_mem hml)
      have HU := Lib.hid (HP.out.up hml)
      have HD := Lib.hid (HP.out.down hml)
      obtain ⟨x, hx1⟩ : ∃ x, rows[m] = x := ⟨_, rfl⟩
      rw [hx1] at hc hv lx HU HD
      obtain ⟨C, hC⟩ : ∃ C, cmpL x row = C := ⟨_, rfl⟩
      rw [hC] at HU HD
      have HC := Lib.hid hC
      clear hx1 hC
      go_upto_region 5 with fail
      rw [HM.out]
      by_cases h0 : C < 0
      · have HU2 := Lib.hid (HU.out h0)
        go_wp2_with (go_at_call 88; refine (specCompareRows_any lx hv hr (h2.toExt hw)).mono ?_; rintro e w1 ⟨rfl, hx1⟩; rw [HC.out])
        exact ⟨⟨m + 1, hi, by go_num, rfl, by omega, hhl, HU2, trans_ext hy hx1⟩, by simp [intOf]; omega⟩
      · have HD2 := Lib.hid (HD.out h0)
        go_wp2_with (go_at_call 88; refine (specCompareRows_any lx hv hr (h2.toExt hw)).mono ?_; rintro e w1 ⟨rfl, hx1⟩; rw [HC.out])
        exact ⟨⟨lo, m, rfl, rfl, by omega, by omega, HD2, trans_ext hy hx1⟩, by simp [intOf]; omega⟩
    · obtain rfl : lo = hi := by omega
      by_cases hl : lo < rows.length
      · obtain ⟨b, o, A1, c1, rfl, hb, hc, hv⟩ := (h1.toExt hw).atV hl
        have lx := Hxl.out rows[lo] (List.getElem_mem hl)
        have HG := Lib.hid (getDl rows [] hl)
        obtain ⟨x, hx1⟩ : ∃ x, rows[lo] = x := ⟨_, rfl⟩
        rw [hx1] at hc hv lx HG
        obtain ⟨C, hC⟩ : ∃ C, cmpL x row = C := ⟨_, rfl⟩
        have HC := Lib.hid hC
        have HE := Lib.hid (plp_end (b := (C == 0)) HP.out (by rw [HG.out, hC, decide_eq_true hl, Bool.true_and]; rfl))
        clear hx1 hC
        go_wp2_with (go_at_call 88; refine (specCompareRows_any lx hv hr (h2.toExt hw)).mono ?_; rintro e w1 ⟨rfl, hx1⟩; rw [HC.out])
        go_ret2
        exact ⟨lo, _, rfl, hhl, HE.out, HP.out, trans_ext hw hx1⟩
      · have HE := Lib.hid (plp_end (b := false) HP.out (by rw [decide_eq_false hl, Bool.false_and]))
        go_wp2
        go_ret2
        exact ⟨lo, _, rfl, hhl, HE.out, HP.out, hw⟩
set_option maxHeartbeats 1000000 in
theorem copyRows_any {A : Option Addr} {c : Nat} {rows : List (List Int)} {w : World} (hx : rows.length ≤ 1000000000) (hxl : ∀ x ∈ rows, x.length ≤ 1000000000) (h1 : RII w A rows) :
    Calls Tryz.prog 112 #[.slice A rows.length c] w fun e w' => ∃ v F, e = .returned v ∧ (∃ y, w' = ext w y) ∧ SV 26 1 (sSl 3 1 sI) w' v rows F ∧ F.Nodup ∧ ∀ b ∈ F, w.heap.size ≤ b := by
  have Hxl := Lib.hid hxl
  clear hxl
  go_enter Tryz.func112, Tryz.ntmps112
  go_wp2
  go_loopw [3, 8] (fun v i wr => ∃ (k : Nat) (F : List Nat), i = .int .i64 k ∧ k ≤ rows.length ∧ SV 26 1 (sSl 3 1 sI) wr v (rows.take k) F ∧ Hid F.Nodup ∧ (∀ b ∈ F, w.heap.size ≤ b) ∧ (∃ y, wr = ext w y)) (fun _ i _ => rows.length - (intOf i).toNat)
  case atStart => exact ⟨0, [], rfl, by omega, SV.nil, Lib.hid (by simp), by simp, refl_ext w⟩
  case round =>
    obtain ⟨k, F, rfl, hk, hS, HN, hF, hw⟩ := hrel
    have HF := Lib.hid hF
    clear hF
    by_cases hlt : k < rows.length
    · obtain ⟨b, o, A1, c1, rfl, hb, hc, hv⟩ := (h1.toExt hw).atV hlt
      have lx := Hxl.out rows[k] (List.getElem_mem hlt)
      have Ht := Lib.hid (show rows.take (k + 1) = rows.take k ++ [rows[k]] from List.take_succ_eq_append_getElem hlt)
      have hlk : (rows.take k).length + 1 ≤ 2000000000 := by simp; omega
      have hSlt := Lib.hid hS.lt
      obtain ⟨x, hx1⟩ : ∃ x, rows[k] = x := ⟨_, rfl⟩
      rw [hx1] at hc hv lx Ht
      clear hx1
      go_wp2_with (first
        | (go_at_call 81; refine (copyInts_v lx hv).mono ?_; rintro e w1 ⟨v1, F1, rfl, hx1, hS1, hF1⟩; obtain ⟨A2, c2, rfl, _, _⟩ := hS1.form; have hN2 := nodup_more HN.out hS1.nodup hSlt.out hF1; have hz1 := size_of_ext hx1)
        | (at_builtin; refine wpList_appN (E := sSl 3 1 sI) (d := x) (G := F1) rfl _ _ _ rfl tIIr rfl rfl rfl (by simp) ⟨_, rfl, hS1⟩ rfl (by simp [Value.oneCell']) (hS.toExt hx1) hN2 hlk (by omega) ?_; intro v' w' F' hS' hC' hN' hF'))
      refine ⟨⟨k + 1, F', by go_num, by omega, by rw [Ht.out]; exact hS', Lib.hid hN', fun b hb => ?_, hC'.isExt (trans_ext hw hx1) HF.out⟩, by simp [intOf]; omega⟩
      have hzw := size_of_ext hw
      rcases hF' b hb with h | h | h
      · exact HF.out b h
      · have := hF1 b h; omega
      · omega
    · rw [List.take_of_length_le (by omega)] at hS
      go_wp2
      go_ret
      exact ⟨_, F, rfl, hw, hS, HN.out, HF.out⟩
set_option maxHeartbeats 1000000 in
theorem copyRelation_any {z : Int} {A : Option Addr} {c : Nat} {rows : List (List Int)} {w : World} (hx : rows.length ≤ 1000000000) (hxl : ∀ x ∈ rows, x.length ≤ 1000000000) (h1 : RII w A rows) :
    Calls Tryz.prog 120 #[.agg #[.int .i64 z, .slice A rows.length c]] w fun e w' => ∃ v0 v1 F, e = .returned (.agg #[v0, v1]) ∧ (∃ y, w' = ext w y) ∧ sRel w' [v0, v1] (z, rows) F ∧ F.Nodup ∧ ∀ b ∈ F, w.heap.size ≤ b := by
  have Hxl := Lib.hid hxl
  clear hxl
  go_enter Tryz.func120, Tryz.ntmps120
  go_upto_region 1 with fail
  refine wp_name ?_
  intro w0 hw0
  have hx0 : ∃ y, w0 = ext w y := by rw [hw0.out]; exact (by refine x'z ?_; repeat (with_reducible (first | exact x'a _ _ | exact x'b _ | exact x'c (by assumption) | refine x'd ?_ (by assumption) | refine x'e ?_ _ | refine x'f ?_ _ | refine x'g ?_ | refine x'h ?_ ?_ _ | refine x'i ?_ _ | refine x'j ?_ | refine x'k ?_ _ | refine x'l ?_ _ _ | refine x'm ?_ | assumption | (refine x'n ?_; omega) | omega)))
  have P0 : BoxAt w0 w.heap.size #[.int .i64 z, .slice A rows.length c] := by rw [hw0.out]; exact (by repeat (with_reducible (first | assumption | exact BoxAt.new _ _ _ | apply BoxAt.set2 | refine BoxAt.set2' ?_ (by omega) | apply BoxAt.setP0 | apply BoxAt.setP1 | refine BoxAt.setO ?_ (by omega) | refine BoxAt.alloc ?_ _ | refine BoxAt.drew ?_ | refine BoxAt.toExt ?_ (by assumption))))
  have R0 : BoxAt w0 (w.heap.size + 1) #[.int .i64 0, .slice none 0 0] := by
    rw [hw0.out]
    simpa using BoxAt.new (w.alloc (.cells #[.int .i64 z, .slice A rows.length c] 58)) #[.int .i64 0, .slice none 0 0] 58
  obtain ⟨l0, k0, k0', f0⟩ := bx2 P0
  obtain ⟨m0, n0, n0', g0⟩ := bx2 R0
  have hz0 := size_of_ext hx0
  clear hw0
  go_region_held3 (fun w' => w'.cell? ⟨w.heap.size, 0, none⟩ = some (.int .i64 z) ∧ w'.cell? ⟨w.heap.size, 1, none⟩ = some (.slice A rows.length c)) (first | go_keep | exact ⟨k1, k1'⟩) ((go_at_call 112; refine (copyRows_any hx Hxl.out (h1.toExt (by refine x'z ?_; repeat (with_reducible (first | exact x'a _ _ | exact x'b _ | exact x'c (by assumption) | refine x'd ?_ (by assumption) | refine x'e ?_ _ | refine x'f ?_ _ | refine x'g ?_ | refine x'h ?_ ?_ _ | refine x'i ?_ _ | refine x'j ?_ | refine x'k ?_ _ | refine x'l ?_ _ _ | refine x'm ?_ | assumption | (refine x'n ?_; omega) | omega))))).mono ?_; rintro e w1 ⟨v1, F1, rfl, hx1, hS1, hN1, hF1⟩; obtain ⟨A1, c1, rfl, _, _⟩ := hS1.form; obtain ⟨l1, k1, k1', f1⟩ := bx2 (P0.drew.toExt hx1); obtain ⟨m1, n1, n1', g1⟩ := bx2 (R0.drew.toExt hx1)))
  go_wp2_with fail
  have hz1 := size_of_ext hx1
  refine bodyPost_ret (v := .agg #[.int .i64 z, .slice A1 rows.length c1]) (by simp [results, Tryz.results120, go_sem, *]) rfl ⟨_, _, F1, rfl, (by refine x'z ?_; repeat (with_reducible (first | exact x'a _ _ | exact x'b _ | exact x'c (by assumption) | refine x'd ?_ (by assumption) | refine x'e ?_ _ | refine x'f ?_ _ | refine x'g ?_ | refine x'h ?_ ?_ _ | refine x'i ?_ _ | refine x'j ?_ | refine x'k ?_ _ | refine x'l ?_ _ _ | refine x'm ?_ | assumption | (refine x'n ?_; omega) | omega))), sRel_mk (OD.chg (E := sII) (G := [w.heap.size + 1]) ⟨_, rfl, hS1⟩ (by repeat (with_reducible (first | exact Chg.refl _ _ | refine Chg.trans0 ?_ (by assumption) | refine Chg.extS ?_ _ | refine Chg.alloc ?_ _ | refine Chg.drew ?_ | refine Chg.setCell ?_ (.inl (by simp)) _))) ?_), hN1, ?_⟩
  · intro b hb h
    have := hF1 b hb
    simp at h this
    omega
  · intro b hb
    have := hF1 b hb
    simp at this
    omega
end Go.Proofs.YtfigcfajkilhiaaGreat
