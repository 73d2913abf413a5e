/- Contracts of functions that the statement reaches. -/
import Derived.Test.YtgnmpjjlclbieaaT01
namespace Go.Proofs.Ytgnmpjjlclbieaa
open Go.RowKit
set_option maxRecDepth 100000 in
set_option maxHeartbeats 16000000 in
theorem specIsValidRelation_w {a : Int} {A : Option Addr} {c : Nat} {rows : List (List Int)} {w : World} (hx : rows.length ≤ 1000000000) (hxl : ∀ x ∈ rows, x.length ≤ 1000000000) (h1 : RII w A rows) :
    Calls Try.prog 32 #[.agg #[.int .i64 a, .slice A rows.length c]] w fun e w' => e = .returned (.bool (rowsB a rows)) ∧ ∃ y, w' = ext w y := by
  have HL := Lib.hid (rows_lenW hxl)
  clear hxl
  obtain ⟨t1, ht1⟩ : ∃ t, inB a 0 5 = t := ⟨_, rfl⟩
  have N1 := Lib.hid ht1
  have HE := Lib.hid (show rowsB a rows = (t1 && decide (rows.length ≤ 4000) && allN (rowOk a rows) rows.length 0) by unfold rowsB; rw [ht1])
  clear ht1
  go_enter Try.func32, Try.ntmps32
  go_upto_region 1 with fail
  refine wp_name ?_
  intro W hW
  have xW : ∃ y, W = ext w y := by rw [hW.out]; exact (by refine x'z ?_; repeat (with_reducible (first | exact x'a _ _ | exact x'b _ | exact x'c (by assumption) | refine x'd ?_ (by assumption) | refine x'e ?_ _ | refine x'f ?_ _ | refine x'g ?_ | refine x'h ?_ ?_ _ | refine x'i ?_ _ | refine x'j ?_ | refine x'k ?_ _ | refine x'l ?_ _ _ | refine x'm ?_ | assumption | (refine x'n ?_; omega) | omega)))
  have BW0 : BoxAt W (w.heap.size) #[.int .i64 a, .slice A rows.length c] := by rw [hW.out]; refine ⟨?_, fun j => ?_, fun j => ?_⟩ <;> go_simp
  obtain ⟨lW0, bW0, fW0⟩ := BW0
  have cW0_0 : W.cell? ⟨w.heap.size, 0, none⟩ = some (.int .i64 a) := bW0 0
  have cW0_1 : W.cell? ⟨w.heap.size, 1, none⟩ = some (.slice A rows.length c) := bW0 1
  clear hW
  have PW : BoxAt W w.heap.size #[.int .i64 a, .slice A rows.length c] := ⟨lW0, bW0, fW0⟩
  cases t1 with
  | false =>
    go_wp2_with (go_at_call 44; refine (l1In_any _ _ _ _).mono ?_; rintro e w' ⟨rfl, rfl⟩; rw [N1.out])
    go_ret
    exact ⟨by rw [HE.out]; rfl, xW⟩
  | true =>
    by_cases h4 : rows.length ≤ 4000
    · have HE2 := Lib.hid (show rowsB a rows = allN (rowOk a rows) rows.length 0 by rw [HE.out, decide_eq_true h4]; simp)
      go_wp2_with (go_at_call 44; refine (l1In_any _ _ _ _).mono ?_; rintro e w' ⟨rfl, rfl⟩; rw [N1.out])
      clear lW0 bW0 fW0 cW0_0 cW0_1
      go_loopw [3] (fun i wr => ∃ k : Nat, i = .int .i64 k ∧ k ≤ rows.length ∧ (∃ y, wr = ext W y) ∧ Hid (allN (rowOk a rows) (rows.length - k) k = allN (rowOk a rows) rows.length 0)) (fun i _ => rows.length - (intOf i).toNat)
      case atStart => exact ⟨0, rfl, by omega, refl_ext W, Lib.hid rfl⟩
      case round =>
        obtain ⟨k, rfl, hk, hy, Hj⟩ := hrel
        obtain ⟨l1, a1, a1', f1⟩ := bx2 (PW.toExt hy)
        by_cases hlt : k < rows.length
        · obtain ⟨b, o, rfl⟩ := h1.pl (by omega)
          have hyw := trans_ext xW hy
          obtain ⟨hb, A1, c1, hc, hv⟩ := (h1.toExt hyw).atV' hlt
          have e := Hj.out
          rw [allN_step hlt] at e
          obtain ⟨r, hr⟩ : ∃ r, rows.getD k [] = r := ⟨_, rfl⟩
          have lr := HL.out k
          rw [hr] at hc hv lr
          obtain ⟨t3, ht3⟩ : ∃ t, decide ((r.length : Int) = a) = t := ⟨_, rfl⟩
          obtain ⟨t4, ht4⟩ : ∃ t, rowV r = t := ⟨_, rfl⟩
          have q3 : ((r.length : Int) != a) = !t3 := by rw [← ht3]; by_cases q : (r.length : Int) = a <;> simp [q]
          have eR : rowOk a rows k = (t3 && t4 && (decide (k = 0) || decide (cmpL (rows.getD (k - 1) []) r < 0))) := by unfold rowOk; rw [hr, ht3, ht4]
          rw [eR] at e
          have N4 := Lib.hid ht4
          clear hr ht3 ht4 eR Hj
          have i0 : (0 : Int) ≤ (k : Int) := by omega
          have i1 : (k : Int) < (rows.length : Int) := by omega
          cases t3 with
          | false =>
            have HF := Lib.hid (rows_f (a := a) (rows := rows) (by rw [← e]; rfl))
            clear e
            go_wp2
            refine wp_region_ext (by kernel_rfl) (by kernel_rfl) ?_
            repeat (go_big_quiet_step ((go_at_call 45; exact quietSb (specAreValidValues_any lr hv.ext) N4.out)))
            refine wpQuiet_nil ?_
            rintro _ ⟨zz, rfl⟩
            go_wp2
            go_ret
            exact ⟨by rw [HF.out]; rfl, trans_ext hyw ⟨_, rfl⟩⟩
          | true =>
            cases t4 with
            | false =>
              have HF := Lib.hid (rows_f (a := a) (rows := rows) (by rw [← e]; rfl))
              clear e
              go_wp2
              refine wp_region_ext (by kernel_rfl) (by kernel_rfl) ?_
              repeat (go_big_quiet_step ((go_at_call 45; exact quietSb (specAreValidValues_any lr hv.ext) N4.out)))
              refine wpQuiet_nil ?_
              rintro _ ⟨zz, rfl⟩
              go_wp2
              go_ret
              exact ⟨by rw [HF.out]; rfl, trans_ext hyw ⟨_, rfl⟩⟩
            | true =>
              by_cases hk0 : 0 < k
              · obtain ⟨_, A2, c2, hc2, hv2⟩ := (h1.toExt hyw).atV' (k := k - 1) (by omega)
                have lr2 := HL.out (k - 1)
                obtain ⟨r2, hr2⟩ : ∃ r, rows.getD (k - 1) [] = r := ⟨_, rfl⟩
                rw [hr2] at hc2 hv2 lr2 e
                obtain ⟨C, hC⟩ : ∃ C, cmpL r2 r = C := ⟨_, rfl⟩
                rw [hC, decide_eq_false (show ¬ k = 0 by omega)] at e
                have HC := Lib.hid hC
                have k1 : (0 : Int) < (k : Int) := by omega
                have s0 : (0 : Int) ≤ (k : Int) - 1 := by omega
                have s1 : IntKind.i64.wrap ((k : Int) - 1) = (k : Int) - 1 := IntWalk.i64_in _ (by omega)
                have s2 : ((k : Int) - 1).toNat = k - 1 := by omega
                have s3 : (k : Int) - 1 < (rows.length : Int) := by omega
                clear hr2 hC
                by_cases hC0 : C < 0
                · have HK := Lib.hid (show allN (rowOk a rows) (rows.length - (k + 1)) (k + 1) = allN (rowOk a rows) rows.length 0 by rw [decide_eq_true hC0] at e; simpa using e)
                  have hC1 : (0 ≤ C) = False := by simp; omega
                  clear e
                  go_wp2
                  refine wp_region_ext (by kernel_rfl) (by kernel_rfl) ?_
                  repeat (go_big_quiet_step (first | (go_at_call 45; exact quietSb (specAreValidValues_any lr hv.ext) N4.out) | (go_at_call 46; exact quietEj (specCompareRows_any lr2 hv2.ext lr hv.ext) HC.out)))
                  refine wpQuiet_nil ?_
                  rintro _ ⟨zz, rfl⟩
                  clear s1
                  go_wp2
                  exact ⟨⟨k + 1, by go_num, by omega, trans_ext hy ⟨_, rfl⟩, HK⟩, by simp [intOf]; omega⟩
                · have HF := Lib.hid (rows_f (a := a) (rows := rows) (by rw [decide_eq_false hC0] at e; rw [← e]; rfl))
                  have hC1 : 0 ≤ C := by omega
                  clear e
                  go_wp2
                  refine wp_region_ext (by kernel_rfl) (by kernel_rfl) ?_
                  repeat (go_big_quiet_step (first | (go_at_call 45; exact quietSb (specAreValidValues_any lr hv.ext) N4.out) | (go_at_call 46; exact quietEj (specCompareRows_any lr2 hv2.ext lr hv.ext) HC.out)))
                  refine wpQuiet_nil ?_
                  rintro _ ⟨zz, rfl⟩
                  clear s1
                  go_wp2
                  go_ret
                  exact ⟨by rw [HF.out]; rfl, trans_ext hyw ⟨_, rfl⟩⟩
              · have HK := Lib.hid (show allN (rowOk a rows) (rows.length - (k + 1)) (k + 1) = allN (rowOk a rows) rows.length 0 by rw [decide_eq_true (show k = 0 by omega)] at e; simpa using e)
                have k1 : decide ((0 : Int) < (k : Int)) = false := decide_eq_false (by omega)
                clear e
                go_wp2
                refine wp_region_ext (by kernel_rfl) (by kernel_rfl) ?_
                repeat (go_big_quiet_step ((go_at_call 45; exact quietSb (specAreValidValues_any lr hv.ext) N4.out)))
                refine wpQuiet_nil ?_
                rintro _ ⟨zz, rfl⟩
                go_wp2
                exact ⟨⟨k + 1, by go_num, by omega, trans_ext hy ⟨_, rfl⟩, HK⟩, by simp [intOf]; omega⟩
        · have e := Hj.out
          rw [allN_end hlt] at e
          have HK := Lib.hid (show rowsB a rows = true by rw [HE2.out, ← e])
          clear e Hj
          go_wp2
          go_ret
          exact ⟨by rw [HK.out]; rfl, trans_ext xW hy⟩
    · have HE2 := Lib.hid (show rowsB a rows = false by rw [HE.out, decide_eq_false h4]; rfl)
      have h5 : 4000 < rows.length := by omega
      go_wp2_with (go_at_call 44; refine (l1In_any _ _ _ _).mono ?_; rintro e w' ⟨rfl, rfl⟩; rw [N1.out])
      go_ret
      exact ⟨by rw [HE2.out]; rfl, xW⟩
end Go.Proofs.Ytgnmpjjlclbieaa
