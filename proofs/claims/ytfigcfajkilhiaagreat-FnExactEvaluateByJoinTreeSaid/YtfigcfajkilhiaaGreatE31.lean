/- Contracts of functions that the statement reaches. -/
import Derived.Test.YtfigcfajkilhiaaGreatE30
namespace Go.Proofs.YtfigcfajkilhiaaGreat
open Go.RowKit
theorem pick_valid {r cols : List Int} (hr : rowV r = true) (hc : ∀ v ∈ cols, 0 ≤ v ∧ v < r.length) : rowV (pickL r cols) = true := by
  rw [rowV_iff] at hr ⊢
  intro x hx
  unfold pickL at hx
  obtain ⟨v, hv, rfl⟩ := List.mem_map.1 hx
  have := hc v hv
  rw [getDl _ _ (show v.toNat < r.length by omega)]
  exact hr _ (List.getElem_mem _)
def keysOf (d d' : VRd) : Rd := (((botY d.1 d'.1 d.1.length).length : Int), sortR (d'.2.2.map fun s => pickL s (botY d.1 d'.1 d.1.length)))
theorem keys_eq {d d' : VRd} (h : VrOk d) (h' : VrOk d') : projR d'.2 (botY d.1 d'.1 d.1.length) = some (keysOf d d') := by
  have h5 : (botY d.1 d'.1 d.1.length).length ≤ 5 := Nat.le_trans botY_len h.len
  unfold projR
  rw [if_pos ⟨rowsB_iff.2 ⟨by rw [h'.ar]; omega, by rw [h'.ar]; have := h'.len; omega, h'.cnt, fun r hr => ⟨by rw [h'.ar, h'.rl r hr], h'.rv r hr⟩, h'.ra⟩, fitsC_iff.2 ⟨h5, fun v hv => by have := botY_in v hv; rw [h'.ar]; exact this⟩⟩]
  refine newR_some (rowsIn_iff.2 fun r hr => ?_) (by omega) (by omega) ?_
  · obtain ⟨s, hs, rfl⟩ := List.mem_map.1 hr
    exact ⟨by rw [pickL_length], pick_valid (h'.rv s hs) fun v hv => by rw [h'.rl s hs]; exact botY_in v hv⟩
  · refine Nat.le_trans (sortR_length _) ?_
    rw [List.length_map]
    exact h'.cnt
theorem semi_key {d d' : VRd} (h : VrOk d) {r : List Int} (hr : r ∈ d.2.2) : decide (pickL r (botX d.1 d'.1 d.1.length) ∈ (keysOf d d').2) = d'.2.2.any fun s => agreeB d.1 r d'.1 s := by
  rw [Bool.eq_iff_iff, decide_eq_true_eq, List.any_eq_true]
  unfold keysOf
  simp only
  rw [mem_sortR, List.mem_map]
  constructor
  · rintro ⟨s, hs, e⟩
    exact ⟨s, hs, (both_agree (asc_nodup h.asc) (h.rl r hr)).1 e.symm⟩
  · rintro ⟨s, hs, e⟩
    exact ⟨s, hs, ((both_agree (asc_nodup h.asc) (h.rl r hr)).2 e).symm⟩
theorem keys_asc (d d' : VRd) : AscR (keysOf d d').2 := asc_sortR _
theorem keys_len {d d' : VRd} (h : VrOk d) (h' : VrOk d') : (keysOf d d').2.length ≤ 4000 ∧ ∀ x ∈ (keysOf d d').2, x.length ≤ 5 := by
  unfold keysOf
  refine ⟨Nat.le_trans (sortR_length _) (by rw [List.length_map]; exact h'.cnt), fun x hx => ?_⟩
  obtain ⟨s, _, rfl⟩ := List.mem_map.1 (mem_sortR.1 hx)
  rw [pickL_length]
  exact Nat.le_trans botY_len h.len
set_option maxRecDepth 100000 in
set_option maxHeartbeats 16000000 in
theorem specSemiJoin_any {A B A' B' : Option Addr} {a b a' b' : Nat} {d d' : VRd} {w : World} (hb : BVR d) (h : vVR w [.slice A d.1.length a, .int .i64 d.2.1, .slice B d.2.2.length b] d) (hb' : BVR d') (h' : vVR w [.slice A' d'.1.length a', .int .i64 d'.2.1, .slice B' d'.2.2.length b'] d') :
    Calls Tryz.prog 35 #[.agg #[.slice A d.1.length a, .int .i64 d.2.1, .slice B d.2.2.length b], .agg #[.slice A' d'.1.length a', .int .i64 d'.2.1, .slice B' d'.2.2.length b']] w (VROut (semiR d d') w) := by
  obtain ⟨r1, r2, _⟩ := vVR_get h
  obtain ⟨s1, s2, _⟩ := vVR_get h'
  have r3 := (vII_get (vRel_get r2).2).2
  have s3 := (vII_get (vRel_get s2).2).2
  have HVa := Lib.hid h
  have HVb := Lib.hid h'
  have Hba := Lib.hid hb
  have Hbb := Lib.hid hb'
  obtain ⟨t1, ht1⟩ : ∃ t, vrB d = t := ⟨_, rfl⟩
  obtain ⟨t2, ht2⟩ : ∃ t, vrB d' = t := ⟨_, rfl⟩
  have HT1 := Lib.hid ht1
  have HT2 := Lib.hid ht2
  clear h h' hb hb' r2 s2 ht1 ht2
  go_enter Tryz.func35, Tryz.ntmps35
  go_upto_region 1 with fail
  refine wp_name ?_
  intro W hW
  have xW : ∃ y, W = ext w y := by rw [hW.out]; exact (by refine x'z ?_; repeat (with_reducible (first | exact x'a _ _ | exact x'b _ | exact x'c (by assumption) | refine x'd ?_ (by assumption) | refine x'e ?_ _ | refine x'f ?_ _ | refine x'g ?_ | refine x'h ?_ ?_ _ | refine x'i ?_ _ | refine x'j ?_ | refine x'k ?_ _ | refine x'l ?_ _ _ | refine x'm ?_ | assumption | (refine x'n ?_; omega) | omega)))
  have BW0 : BoxAt W (w.heap.size) #[.slice A d.1.length a, .int .i64 d.2.1, .slice B d.2.2.length b] := by rw [hW.out]; refine ⟨?_, fun j => ?_, fun j => ?_⟩ <;> go_simp
  obtain ⟨lW0, bW0, fW0⟩ := BW0
  have cW0_0 : W.cell? ⟨w.heap.size, 0, none⟩ = some (.slice A d.1.length a) := bW0 0
  have cW0_1 : W.cell? ⟨w.heap.size, 1, none⟩ = some (.int .i64 d.2.1) := bW0 1
  have cW0_2 : W.cell? ⟨w.heap.size, 2, none⟩ = some (.slice B d.2.2.length b) := bW0 2
  have BW1 : BoxAt W (w.heap.size + 1) #[.slice A' d'.1.length a', .int .i64 d'.2.1, .slice B' d'.2.2.length b'] := by rw [hW.out]; refine ⟨?_, fun j => ?_, fun j => ?_⟩ <;> go_simp
  obtain ⟨lW1, bW1, fW1⟩ := BW1
  have cW1_0 : W.cell? ⟨w.heap.size + 1, 0, none⟩ = some (.slice A' d'.1.length a') := bW1 0
  have cW1_1 : W.cell? ⟨w.heap.size + 1, 1, none⟩ = some (.int .i64 d'.2.1) := bW1 1
  have cW1_2 : W.cell? ⟨w.heap.size + 1, 2, none⟩ = some (.slice B' d'.2.2.length b') := bW1 2
  have BW2 : BoxAt W (w.heap.size + 1 + 1) #[.slice none 0 0, .int .i64 0, .slice none 0 0] := by rw [hW.out]; refine ⟨?_, fun j => ?_, fun j => ?_⟩ <;> go_simp
  obtain ⟨lW2, bW2, fW2⟩ := BW2
  have cW2_0 : W.cell? ⟨w.heap.size + 1 + 1, 0, none⟩ = some (.slice none 0 0) := bW2 0
  have cW2_1 : W.cell? ⟨w.heap.size + 1 + 1, 1, none⟩ = some (.int .i64 0) := bW2 1
  have cW2_2 : W.cell? ⟨w.heap.size + 1 + 1, 2, none⟩ = some (.slice none 0 0) := bW2 2
  clear hW
  have PW : BoxAt W w.heap.size #[.slice A d.1.length a, .int .i64 d.2.1, .slice B d.2.2.length b] := ⟨lW0, bW0, fW0⟩
  have QW : BoxAt W (w.heap.size + 1) #[.slice A' d'.1.length a', .int .i64 d'.2.1, .slice B' d'.2.2.length b'] := ⟨lW1, bW1, fW1⟩
  have RW : BoxAt W (w.heap.size + 1 + 1) #[.slice none 0 0, .int .i64 0, .slice none 0 0] := ⟨lW2, bW2, fW2⟩
  cases t1 with
  | false =>
    have HZ := Lib.hid (show semiR d d' = none by unfold semiR; rw [HT1.out]; simp)
    go_wp2_with (go_at_call 70; refine (specIsValidVarRelation_any Hba.out (VD.toExt HVa.out xW)).mono ?_; rintro e w3 ⟨rfl, hx3⟩; rw [HT1.out]; obtain ⟨l3, a3, a3', a3'', f3⟩ := box3 (RW.toExt hx3))
    refine bodyPost_ret (v := .tuple #[.agg #[.slice none 0 0, .int .i64 0, .slice none 0 0], .bool false]) (by simp [results, Tryz.results35, go_sem, *]) rfl (vrOut_none HZ.out rfl (by refine x'z ?_; repeat (with_reducible (first | exact x'a _ _ | exact x'b _ | exact x'c (by assumption) | refine x'd ?_ (by assumption) | refine x'e ?_ _ | refine x'f ?_ _ | refine x'g ?_ | refine x'h ?_ ?_ _ | refine x'i ?_ _ | refine x'j ?_ | refine x'k ?_ _ | refine x'l ?_ _ _ | refine x'm ?_ | assumption | (refine x'n ?_; omega) | omega))))
  | true =>
    cases t2 with
    | false =>
      have HZ := Lib.hid (show semiR d d' = none by unfold semiR; rw [HT2.out]; simp)
      go_wp2_with (first
        | (go_at_call 70; with_reducible refine (specIsValidVarRelation_any Hba.out (VD.toExt HVa.out ?_)).mono ?_; (focus (exact xW)); rintro e w3 ⟨rfl, hx3⟩; rw [HT1.out]; obtain ⟨l3, a3, a3', a3'', f3⟩ := box3 (QW.toExt hx3))
        | (go_at_call 70; with_reducible refine (specIsValidVarRelation_any Hbb.out (VD.toExt HVb.out ?_)).mono ?_; (focus (exact (trans_ext xW hx3))); rintro e w4 ⟨rfl, hx4⟩; rw [HT2.out]; obtain ⟨l4, a4, a4', a4'', f4⟩ := box3 (RW.toExt (trans_ext hx3 hx4))))
      refine bodyPost_ret (v := .tuple #[.agg #[.slice none 0 0, .int .i64 0, .slice none 0 0], .bool false]) (by simp [results, Tryz.results35, go_sem, *]) rfl (vrOut_none HZ.out rfl (by refine x'z ?_; repeat (with_reducible (first | exact x'a _ _ | exact x'b _ | exact x'c (by assumption) | refine x'd ?_ (by assumption) | refine x'e ?_ _ | refine x'f ?_ _ | refine x'g ?_ | refine x'h ?_ ?_ _ | refine x'i ?_ _ | refine x'j ?_ | refine x'k ?_ _ | refine x'l ?_ _ _ | refine x'm ?_ | assumption | (refine x'n ?_; omega) | omega))))
    | true =>
      have HA := Lib.hid (vrB_iff.1 HT1.out)
      have HB := Lib.hid (vrB_iff.1 HT2.out)
      have hva5 : d.1.length ≤ 5 := HA.out.len
      have hvb5 : d'.1.length ≤ 5 := HB.out.len
      go_upto_region 3 with (first
        | (go_at_call 70; with_reducible refine (specIsValidVarRelation_any Hba.out (VD.toExt HVa.out ?_)).mono ?_; (focus (exact xW)); rintro e w3 ⟨rfl, hx3⟩; rw [HT1.out]; obtain ⟨l3, a3, a3', a3'', f3⟩ := box3 (QW.toExt hx3))
        | (go_at_call 70; with_reducible refine (specIsValidVarRelation_any Hbb.out (VD.toExt HVb.out ?_)).mono ?_; (focus (exact (trans_ext xW hx3))); rintro e w4 ⟨rfl, hx4⟩; rw [HT2.out]))
      have x4 := trans_ext hx3 hx4
      have xw4 := trans_ext xW x4
      have P4 := PW.toExt x4
      have Q4 := QW.toExt x4
      have R4 := RW.toExt x4
      obtain ⟨lp, p0, p1, p2, fp⟩ := box3 P4
      obtain ⟨lq, q0, q1, q2, fq⟩ := box3 Q4
      clear PW QW RW lW0 bW0 fW0 cW0_0 cW0_1 cW0_2 lW1 bW1 fW1 cW1_0 cW1_1 cW1_2 lW2 bW2 fW2 cW2_0 cW2_1 cW2_2 l3 a3 a3' a3'' f3 xW hx3 hx4
      go_wp2_with fail
      refine (l11Both_any (by omega) (r1.toExt xw4) (by omega) (s1.toExt xw4)).mono ?_
      rintro e w5 ⟨Ax, cx, Ay, cy, rfl, rx, ry, hx5⟩
      have hxl := botX_len (va := d.1) (vb := d'.1) (k := d.1.length)
      have hyl := botY_len (va := d.1) (vb := d'.1) (k := d.1.length)
      have HXin := Lib.hid (botX_in (va := d.1) (vb := d'.1) (k := d.1.length))
      have HK := Lib.hid (keys_eq HA.out HB.out)
      have HKL := Lib.hid (keys_len HA.out HB.out)
      have HKA := Lib.hid (keys_asc d d')
      have HSK := Lib.hid (fun r (hr : r ∈ d.2.2) => semi_key (d' := d') HA.out hr)
      obtain ⟨xs, hxs⟩ : ∃ x, botX d.1 d'.1 d.1.length = x := ⟨_, rfl⟩
      obtain ⟨ys, hys⟩ : ∃ x, botY d.1 d'.1 d.1.length = x := ⟨_, rfl⟩
      obtain ⟨K, hKe⟩ : ∃ x, keysOf d d' = x := ⟨_, rfl⟩
      rw [hxs] at rx hxl HXin HSK ⊢
      rw [hys] at ry hyl HK ⊢
      rw [hKe] at HK HKL HKA HSK
      clear hxs hys hKe
      have P5 := P4.toExt hx5
      have Q5 := Q4.toExt hx5
      have R5 := R4.toExt hx5
      have xw5 := trans_ext xw4 hx5
      have har := HB.out.ar
      have hrb := HB.out.cnt
      have HBl := Lib.hid (fun x (hx : x ∈ d'.2.2) => show x.length ≤ 1000000000 by have := HB.out.rl x hx; omega)
      have HAR := Lib.hid (show -1000000000 ≤ d'.2.1 ∧ d'.2.1 ≤ 1000000000 by omega)
      obtain ⟨lp5, p50, p51, p52, fp5⟩ := box3 P5
      obtain ⟨lq5, q50, q51, q52, fq5⟩ := box3 Q5
      clear lp p0 p1 p2 fp lq q0 q1 q2 fq P4 Q4 R4 har
      go_wp2_with fail
      refine (specProject_any HAR.out (by omega) HBl.out (s3.toExt xw5) (by omega) ry).mono ?_
      rw [HK.out]
      rintro e w6 ⟨u0, u1, F6, rfl, hx6, hS6, hN6, hF6⟩
      obtain ⟨Ak, ck, rfl, rfl, hS6'⟩ := sRel_form hS6
      have rk6 := (vII_get (sII_v _ _ _ hS6')).2
      go_upto_region 5 with fail
      refine wp_name ?_
      intro W7 hW7
      have x7 : ∃ y, W7 = ext w6 y := by rw [hW7.out]; exact (by refine x'z ?_; repeat (with_reducible (first | exact x'a _ _ | exact x'b _ | exact x'c (by assumption) | refine x'd ?_ (by assumption) | refine x'e ?_ _ | refine x'f ?_ _ | refine x'g ?_ | refine x'h ?_ ?_ _ | refine x'i ?_ _ | refine x'j ?_ | refine x'k ?_ _ | refine x'l ?_ _ _ | refine x'm ?_ | assumption | (refine x'n ?_; omega) | omega)))
      have KB : BoxAt W7 w6.heap.size #[.int .i64 K.1, .slice Ak K.2.length ck] := by rw [hW7.out]; exact (by repeat (with_reducible (first | assumption | exact BoxAt.new _ _ _ | apply BoxAt.set2 | refine BoxAt.set2' ?_ (by omega) | apply BoxAt.setP0 | apply BoxAt.setP1 | refine BoxAt.setO ?_ (by omega) | refine BoxAt.alloc ?_ _ | refine BoxAt.drew ?_ | refine BoxAt.toExt ?_ (by assumption))))
      have x57 := trans_ext hx6 x7
      have P7 := P5.toExt x57
      have Q7 := Q5.toExt x57
      have R7 := R5.toExt x57
      have xw7 := trans_ext xw5 x57
      have rk7 := rk6.toExt x7
      have rx7 := rx.toExt x57
      have hw6s : w.heap.size + 1 + 1 < w6.heap.size := (R5.toExt hx6).1
      obtain ⟨bK, qK⟩ : ∃ b, w6.heap.size = b := ⟨_, rfl⟩
      rw [qK] at KB hw6s ⊢
      clear hW7 qK hS6 hS6' hN6 hF6 rk6 rx ry P5 Q5 R5 lp5 p50 p51 p52 fp5 lq5 q50 q51 q52 fq5 HBl HAR
      obtain ⟨lp, p0, p1, p2, fp⟩ := box3 P7
      have hE2 : SV 3 1 sI ((W7.alloc (.cells #[.slice none 0 0, .int .i64 0, .slice none 0 0] 69)).alloc (.cells #[] 3)) (.slice (some ⟨W7.heap.size + 1, 0, none⟩) 0 0) ([] : List Int) [W7.heap.size + 1] := by simpa using SV.empty (α := Int) (te := 3) (size := 1) (E := sI) (W7.alloc (.cells #[.slice none 0 0, .int .i64 0, .slice none 0 0] 69))
      go_cut [10] (CutX d.1 d.2.1 W7)
      case first =>
        go_region_held3 (fun w' => (∀ a : Addr, a.block < W7.heap.size → w'.cell? a = W7.cell? a) ∧ ∃ y, w' = ext W7 y) (first | exact heldE (by refine x'z ?_; repeat (with_reducible (first | exact x'a _ _ | exact x'b _ | exact x'c (by assumption) | refine x'd ?_ (by assumption) | refine x'e ?_ _ | refine x'f ?_ _ | refine x'g ?_ | refine x'h ?_ ?_ _ | refine x'i ?_ _ | refine x'j ?_ | refine x'k ?_ _ | refine x'l ?_ _ _ | refine x'm ?_ | assumption | (refine x'n ?_; omega) | omega)))) (first
          | (refine step_appV (E := sI) (V := vI) (es := d.1) (by rfl) _ _ _ (by rfl) tI (by rfl) ((SV.empty W7).toExt ?_) (by rfl) (by rfl) (r1.toExt ?_) vI_s vI_1 (by simp; omega) (by omega) ?_; (focus (exact (by refine x'z ?_; repeat (with_reducible (first | exact x'a _ _ | exact x'b _ | exact x'c (by assumption) | refine x'd ?_ (by assumption) | refine x'e ?_ _ | refine x'f ?_ _ | refine x'g ?_ | refine x'h ?_ ?_ _ | refine x'i ?_ _ | refine x'j ?_ | refine x'k ?_ _ | refine x'l ?_ _ _ | refine x'm ?_ | assumption | (refine x'n ?_; omega) | omega))))); (focus (exact (trans_ext xw7 (by refine x'z ?_; repeat (with_reducible (first | exact x'a _ _ | exact x'b _ | exact x'c (by assumption) | refine x'd ?_ (by assumption) | refine x'e ?_ _ | refine x'f ?_ _ | refine x'g ?_ | refine x'h ?_ ?_ _ | refine x'i ?_ _ | refine x'j ?_ | refine x'k ?_ _ | refine x'l ?_ _ _ | refine x'm ?_ | assumption | (refine x'n ?_; omega) | omega)))))); intro v8 w8 F8 hS8 hC8 hF8; obtain ⟨A8, c8, rfl, _, _⟩ := hS8.form; have hx8 : ∃ y, w8 = ext W7 y := hC8.isExt (by refine x'z ?_; repeat (with_reducible (first | exact x'a _ _ | exact x'b _ | exact x'c (by assumption) | refine x'd ?_ (by assumption) | refine x'e ?_ _ | refine x'f ?_ _ | refine x'g ?_ | refine x'h ?_ ?_ _ | refine x'i ?_ _ | refine x'j ?_ | refine x'k ?_ _ | refine x'l ?_ _ _ | refine x'm ?_ | assumption | (refine x'n ?_; omega) | omega))) (by simp); try (have BX8 := (BoxAt.new (W7.alloc (.cells #[] 3)) #[.slice none 0 0, .int .i64 0, .slice none 0 0] 69).drew.chg hC8 (by simp); rw [World.size_alloc] at BX8; obtain ⟨l6, b6, b6', b6'', f6⟩ := box3 BX8))
          | (refine step_appV (E := sI) (V := vI) (es := d.1) (by rfl) _ _ _ (by rfl) tI (by rfl) (hE2.toExt ?_) (by rfl) (by rfl) (r1.toExt ?_) vI_s vI_1 (by simp; omega) (by omega) ?_; (focus (exact (by refine x'z ?_; repeat (with_reducible (first | exact x'a _ _ | exact x'b _ | exact x'c (by assumption) | refine x'd ?_ (by assumption) | refine x'e ?_ _ | refine x'f ?_ _ | refine x'g ?_ | refine x'h ?_ ?_ _ | refine x'i ?_ _ | refine x'j ?_ | refine x'k ?_ _ | refine x'l ?_ _ _ | refine x'm ?_ | assumption | (refine x'n ?_; omega) | omega))))); (focus (exact (trans_ext xw7 (by refine x'z ?_; repeat (with_reducible (first | exact x'a _ _ | exact x'b _ | exact x'c (by assumption) | refine x'd ?_ (by assumption) | refine x'e ?_ _ | refine x'f ?_ _ | refine x'g ?_ | refine x'h ?_ ?_ _ | refine x'i ?_ _ | refine x'j ?_ | refine x'k ?_ _ | refine x'l ?_ _ _ | refine x'm ?_ | assumption | (refine x'n ?_; omega) | omega)))))); intro v8 w8 F8 hS8 hC8 hF8; obtain ⟨A8, c8, rfl, _, _⟩ := hS8.form; have hx8 : ∃ y, w8 = ext W7 y := hC8.isExt (by refine x'z ?_; repeat (with_reducible (first | exact x'a _ _ | exact x'b _ | exact x'c (by assumption) | refine x'd ?_ (by assumption) | refine x'e ?_ _ | refine x'f ?_ _ | refine x'g ?_ | refine x'h ?_ ?_ _ | refine x'i ?_ _ | refine x'j ?_ | refine x'k ?_ _ | refine x'l ?_ _ _ | refine x'm ?_ | assumption | (refine x'n ?_; omega) | omega))) (by simp); have BX8 := (((BoxAt.new W7 #[.slice none 0 0, .int .i64 0, .slice none 0 0] 69).alloc (.cells #[] 3)).drew).chg hC8 (by simp); obtain ⟨l6, b6, b6', b6'', f6⟩ := box3 BX8))
        all_goals
          go_wp2_with fail
          go_meet
          have hS9 : SV 3 1 sI w8 (.slice A8 d.1.length c8) d.1 F8 := by simpa using hS8
          have hz8 := hC8.size
          have hlt8 := hS9.lt
          simp only [World.size_alloc, World.drew, List.mem_singleton] at hz8 hF8
          first
            | exact ⟨w8.heap.size, A8, c8, F8, rfl, BoxAt.new _ _ _, hS9.toExt (alloc_ext _ _), fun x hx => ⟨by have := hF8 x hx; omega, by have := hlt8 x hx; omega⟩, by omega, (by refine x'z ?_; repeat (with_reducible (first | exact x'a _ _ | exact x'b _ | exact x'c (by assumption) | refine x'd ?_ (by assumption) | refine x'e ?_ _ | refine x'f ?_ _ | refine x'g ?_ | refine x'h ?_ ?_ _ | refine x'i ?_ _ | refine x'j ?_ | refine x'k ?_ _ | refine x'l ?_ _ _ | refine x'm ?_ | assumption | (refine x'n ?_; omega) | omega)))⟩
            | exact ⟨W7.heap.size + 1, A8, c8, F8, rfl, (by repeat (with_reducible (first | assumption | exact BoxAt.new _ _ _ | apply BoxAt.set3 | refine BoxAt.set3' ?_ (by omega) | apply BoxAt.set30 | apply BoxAt.set31 | apply BoxAt.set32 | apply BoxAt.set2 | refine BoxAt.set2' ?_ (by omega) | apply BoxAt.setP0 | apply BoxAt.setP1 | refine BoxAt.setO ?_ (by omega) | refine BoxAt.alloc ?_ _ | refine BoxAt.drew ?_ | refine BoxAt.toExt ?_ (by assumption)))), hS9.chg (G := [W7.heap.size + 1]) (by repeat (with_reducible (first | exact Chg.refl _ _ | refine Chg.trans0 ?_ (by assumption) | refine Chg.extS ?_ _ | refine Chg.alloc ?_ _ | refine Chg.drew ?_ | refine Chg.setCell ?_ (.inl (by simp)) _))) (fun x hx hm => by have := hF8 x hx; rw [List.mem_singleton.1 hm] at this; omega), fun x hx => by have := hF8 x hx; omega, by omega, (by refine x'z ?_; repeat (with_reducible (first | exact x'a _ _ | exact x'b _ | exact x'c (by assumption) | refine x'd ?_ (by assumption) | refine x'e ?_ _ | refine x'f ?_ _ | refine x'g ?_ | refine x'h ?_ ?_ _ | refine x'i ?_ _ | refine x'j ?_ | refine x'k ?_ _ | refine x'l ?_ _ _ | refine x'm ?_ | assumption | (refine x'n ?_; omega) | omega)))⟩
            | exact ⟨W7.heap.size, A8, c8, F8, rfl, (by repeat (with_reducible (first | assumption | exact BoxAt.new _ _ _ | apply BoxAt.set3 | refine BoxAt.set3' ?_ (by omega) | apply BoxAt.set30 | apply BoxAt.set31 | apply BoxAt.set32 | apply BoxAt.set2 | refine BoxAt.set2' ?_ (by omega) | apply BoxAt.setP0 | apply BoxAt.setP1 | refine BoxAt.setO ?_ (by omega) | refine BoxAt.alloc ?_ _ | refine BoxAt.drew ?_ | refine BoxAt.toExt ?_ (by assumption)))), hS9.chg (G := [W7.heap.size]) (by repeat (with_reducible (first | exact Chg.refl _ _ | refine Chg.trans0 ?_ (by assumption) | refine Chg.extS ?_ _ | refine Chg.alloc ?_ _ | refine Chg.drew ?_ | refine Chg.setCell ?_ (.inl (by simp)) _))) (fun x hx hm => by have := hF8 x hx; rw [List.mem_singleton.1 hm] at this; omega), fun x hx => by have := hF8 x hx; omega, by omega, (by refine x'z ?_; repeat (with_reducible (first | exact x'a _ _ | exact x'b _ | exact x'c (by assumption) | refine x'd ?_ (by assumption) | refine x'e ?_ _ | refine x'f ?_ _ | refine x'g ?_ | refine x'h ?_ ?_ _ | refine x'i ?_ _ | refine x'j ?_ | refine x'k ?_ _ | refine x'l ?_ _ _ | refine x'm ?_ | assumption | (refine x'n ?_; omega) | omega)))⟩
      obtain ⟨bX, A1, c1, F1, rfl, BX, hSv, hF1, hbX, hxX⟩ := hcut
      obtain ⟨W8, rfl⟩ : ∃ W, W = wc := ⟨_, rfl⟩
      have HF1 := Lib.hid hF1
      have P8 := P7.toExt hxX
      have R8 := R7.toExt hxX
      have K8 := KB.toExt hxX
      have xw8 := trans_ext xw7 hxX
      have hKW := KB.1
      have hbKX : bK < bX := by omega
      have hbXw : w.heap.size + 1 + 1 < bX := by omega
      have hXW : bX < W8.heap.size := BX.1
      have HZ := Lib.hid (show semiR d d' = some (d.1, d.2.1, semiL d.1 d.2.2 d'.1 d'.2.2) by unfold semiR; rw [if_pos ⟨HT1.out, HT2.out⟩])
      have hra := HA.out.cnt
      have HAl := Lib.hid HA.out.rl
      clear hF1 lp p0 p1 p2 fp P7 Q7 R7 KB HT1 HT2 HVa HVb Hba Hbb HA HB hE2
      go_wp2_with fail
      go_loopw [11] (fun i wr => ∃ (k : Nat) (A3 : Option Addr) (c3 : Nat) (F : List Nat), i = .int .i64 k ∧ k ≤ d.2.2.length ∧ BoxAt wr bX #[.slice A1 d.1.length c1, .int .i64 d.2.1, .slice A3 (semiL d.1 (d.2.2.take k) d'.1 d'.2.2).length c3] ∧ SV 26 1 sRow wr (.slice A3 (semiL d.1 (d.2.2.take k) d'.1 d'.2.2).length c3) (semiL d.1 (d.2.2.take k) d'.1 d'.2.2) F ∧ Hid F.Nodup ∧ Hid (∀ x ∈ F, W8.heap.size ≤ x) ∧ Chg [bX] W8 wr) (fun i _ => d.2.2.length - (intOf i).toNat)
      case atStart => exact ⟨0, none, 0, [], rfl, by omega, by simpa [semiL] using BX, by simpa [semiL] using SV.nil, Lib.hid (by simp), Lib.hid (by simp), Chg.refl _ _⟩
      case round =>
        obtain ⟨k, A3, c3, F, rfl, hk, hB, hS, HN, HF, hC⟩ := hrel
        have hw : ∃ y, wr = ext w y := hC.isExt xw8 (by simp; omega)
        have h7x : ∃ y, wr = ext W7 y := hC.isExt hxX (by simp; omega)
        have P9 := P8.chg hC (by simp; omega)
        have R9 := R8.chg hC (by simp; omega)
        have K9 := K8.chg hC (by simp; omega)
        by_cases hlt : k < d.2.2.length
        · obtain ⟨br, orr, A4, c4, rfl, hbr, hcr, hvr⟩ := (r3.toExt hw).atV hlt
          have lr := HAl.out _ (List.getElem_mem hlt)
          have hsk := HSK.out _ (List.getElem_mem hlt)
          have Hst := Lib.hid (semi_step (va := d.1) (vb := d'.1) (rb := d'.2.2) hlt)
          have hlk : (semiL d.1 (d.2.2.take k) d'.1 d'.2.2).length + 1 ≤ 2000000000 := by have := semiL_len (va := d.1) (vb := d'.1) (ra := d.2.2) (rb := d'.2.2) (k := k); omega
          obtain ⟨r, hr⟩ : ∃ r, d.2.2[k] = r := ⟨_, rfl⟩
          rw [hr] at hcr hvr lr Hst hsk
          obtain ⟨sl, hsl⟩ : ∃ l, semiL d.1 (d.2.2.take k) d'.1 d'.2.2 = l := ⟨_, rfl⟩
          rw [hsl] at Hst hlk hB hS
          obtain ⟨t, ht⟩ : ∃ t, (d'.2.2.any fun s => agreeB d.1 r d'.1 s) = t := ⟨_, rfl⟩
          rw [ht] at hsk Hst
          obtain ⟨px, hpx⟩ : ∃ p, pickL r xs = p := ⟨_, rfl⟩
          have hpl : px.length ≤ 1000000000 := by rw [← hpx, pickL_length]; omega
          rw [hpx] at hsk
          have HPX := Lib.hid hpx
          have HTK := Lib.hid hsk
          have HPI := Lib.hid (show ∀ v ∈ xs, 0 ≤ v ∧ v < (r.length : Int) by rw [lr]; exact HXin.out)
          have HLR := Lib.hid lr
          have hrl : r.length ≤ 1000000000 := by omega
          clear hr hsl ht hpx hsk lr
          obtain ⟨lp7, p70, p71, p72, fp7⟩ := box3 P9
          obtain ⟨lk7, k70, k71, fk7⟩ := bx2 K9
          have rkr := rk7.toExt h7x
          have rxr := rx7.toExt h7x
          have HB := Lib.hid hB
          have HS := Lib.hid hS
          have HC := Lib.hid hC
          have HSlt := Lib.hid hS.lt
          have hCs := hC.size
          have hbXr : bX < wr.heap.size := hB.1
          have hXF : bX ∉ F := fun h => by have := HF.out bX h; omega
          have HP9 := Lib.hid P9
          have HKB := Lib.hid HKL.out.1
          have hK4 : K.2.length ≤ 1000000000 := by have := HKL.out.1; omega
          have HKX := Lib.hid (fun x (hx : x ∈ K.2) => show x.length ≤ 1000000000 by have := HKL.out.2 x hx; omega)
          clear hB hS hC P9 R9 K9
          go_wp2_with fail
          go_region_held3 (fun w' => (∀ a : Addr, a.block < wr.heap.size → w'.cell? a = wr.cell? a) ∧ ∃ y, w' = ext wr y) (first | exact heldE (by refine x'z ?_; repeat (with_reducible (first | exact x'a _ _ | exact x'b _ | exact x'c (by assumption) | refine x'd ?_ (by assumption) | refine x'e ?_ _ | refine x'f ?_ _ | refine x'g ?_ | refine x'h ?_ ?_ _ | refine x'i ?_ _ | refine x'j ?_ | refine x'k ?_ _ | refine x'l ?_ _ _ | refine x'm ?_ | assumption | (refine x'n ?_; omega) | omega)))) (first
            | (go_at_call 73; refine (l5Cols_any (hvr.toExt (by refine x'z ?_; repeat (with_reducible (first | exact x'a _ _ | exact x'b _ | exact x'c (by assumption) | refine x'd ?_ (by assumption) | refine x'e ?_ _ | refine x'f ?_ _ | refine x'g ?_ | refine x'h ?_ ?_ _ | refine x'i ?_ _ | refine x'j ?_ | refine x'k ?_ _ | refine x'l ?_ _ _ | refine x'm ?_ | assumption | (refine x'n ?_; omega) | omega)))) (by omega) (rxr.toExt (by refine x'z ?_; repeat (with_reducible (first | exact x'a _ _ | exact x'b _ | exact x'c (by assumption) | refine x'd ?_ (by assumption) | refine x'e ?_ _ | refine x'f ?_ _ | refine x'g ?_ | refine x'h ?_ ?_ _ | refine x'i ?_ _ | refine x'j ?_ | refine x'k ?_ _ | refine x'l ?_ _ _ | refine x'm ?_ | assumption | (refine x'n ?_; omega) | omega)))) HPI.out).mono ?_; rw [HPX.out]; rintro e w10 ⟨v10, F10, rfl, hx10, hS10, hF10⟩; obtain ⟨A10, c10, rfl, _, _, rv10⟩ := hS10.view sI_v)
            | (go_at_call 72; refine (l5Place_any hK4 HKX.out (rkr.toExt (by refine x'z ?_; repeat (with_reducible (first | exact x'a _ _ | exact x'b _ | exact x'c (by assumption) | refine x'd ?_ (by assumption) | refine x'e ?_ _ | refine x'f ?_ _ | refine x'g ?_ | refine x'h ?_ ?_ _ | refine x'i ?_ _ | refine x'j ?_ | refine x'k ?_ _ | refine x'l ?_ _ _ | refine x'm ?_ | assumption | (refine x'n ?_; omega) | omega)))) hpl rv10).mono ?_; rintro e w11 ⟨kk, bb, rfl, _, hbb, _, hx11⟩; obtain rfl := (hbb HKA.out).trans HTK.out; clear hbb))
          have hy11 : ∃ y, w11 = ext wr y := (by refine x'z ?_; repeat (with_reducible (first | exact x'a _ _ | exact x'b _ | exact x'c (by assumption) | refine x'd ?_ (by assumption) | refine x'e ?_ _ | refine x'f ?_ _ | refine x'g ?_ | refine x'h ?_ ?_ _ | refine x'i ?_ _ | refine x'j ?_ | refine x'k ?_ _ | refine x'l ?_ _ _ | refine x'm ?_ | assumption | (refine x'n ?_; omega) | omega)))
          have hz11 := size_of_ext hy11
          have hB11 := HB.out.toExt hy11
          have hP11 := HP9.out.toExt hy11
          clear hS10 hF10 rv10
          cases bb with
          | false =>
            have HST := Lib.hid (show semiL d.1 (d.2.2.take (k + 1)) d'.1 d'.2.2 = sl by rw [Hst.out, if_neg (by simp), List.append_nil])
            go_wp2
            exact ⟨⟨k + 1, A3, c3, F, by go_num, by omega, by rw [HST.out]; exact hB11, by rw [HST.out]; exact HS.out.toExt hy11, HN, HF, HC.out.trans0 hy11⟩, by simp [intOf]; omega⟩
          | true =>
            have HST := Lib.hid (show semiL d.1 (d.2.2.take (k + 1)) d'.1 d'.2.2 = sl ++ [r] by rw [Hst.out, if_pos rfl])
            obtain ⟨l8, b80, b81, b82, f8⟩ := box3 hB11
            obtain ⟨lp8, p80, p81, p82, fp8⟩ := box3 hP11
            have hc11 : w11.cell? ⟨br, orr + k, none⟩ = some (.slice A4 r.length c4) := by obtain ⟨y, e⟩ := hy11; rw [e, cell_ext hbr]; exact hcr
            have hbr11 : br < w11.heap.size := by omega
            have HV := Lib.hid (hvr.toExt hy11)
            have HB11 := Lib.hid hB11
            have HP11 := Lib.hid hP11
            have HS11 := Lib.hid (HS.out.toExt hy11)
            have hlt11 : ∀ b ∈ F, b < w11.heap.size := fun b hb => Nat.lt_of_lt_of_le (HSlt.out b hb) hz11
            have HFl := Lib.hid hlt11
            have hbX11 : bX < w11.heap.size := hB11.1
            obtain ⟨lb9, b90, b91, b92, fb9⟩ := box3 HB.out
            clear hB11 hP11 hlt11 lk7 k70 k71 fk7
            go_upto_region 11 with fail
            go_region_law (first
              | (refine step_appV (E := sI) (V := vI) (es := r) (by rfl) _ _ _ (by rfl) tI (by rfl) ((SV.empty w11).toExt (drew_ext _)) (by rfl) (by rfl) (HV.out.toExt (by refine x'z ?_; repeat (with_reducible (first | exact x'a _ _ | exact x'b _ | exact x'c (by assumption) | refine x'd ?_ (by assumption) | refine x'e ?_ _ | refine x'f ?_ _ | refine x'g ?_ | refine x'h ?_ ?_ _ | refine x'i ?_ _ | refine x'j ?_ | refine x'k ?_ _ | refine x'l ?_ _ _ | refine x'm ?_ | assumption | (refine x'n ?_; omega) | omega)))) vI_s vI_1 (by simp; omega) (by omega) ?_; intro v6 w6 F6 hS6 hC6 hF6; obtain ⟨A6, c6, rfl, _, _⟩ := hS6.form; have B6 := ((HB11.out.alloc (.cells #[] 3)).drew).chg hC6 (by simp; omega); obtain ⟨l6, q6, q6', q6'', f6⟩ := box3 B6; obtain ⟨m6, p6, p6', p6'', g6⟩ := box3 (((HP11.out.alloc (.cells #[] 3)).drew).chg hC6 (by simp; omega)))
              | (refine step_appB (E := sRow) (d := r) (G := F6) (by rfl) _ _ _ (by rfl) tIIr (by rfl) (by rfl) (by exact BoxAt.new _ _ _) ⟨_, rfl, hS6.toExt (alloc_ext _ _)⟩ (by rfl) (by simp [Value.oneCell']) (((HS11.out.toExt (trans_ext (alloc_ext _ _) (drew_ext _))).chg hC6 (fun b hb h => by have := HFl.out b hb; simp at h; omega)).toExt (alloc_ext _ _)) (nodup_more HN.out hS6.nodup HFl.out (fun b hb => by rcases hF6 b hb with h | h <;> simp at h <;> omega)) (by omega) (by omega) ?_; intro v7 w7 F7 hS7 hC7 hN7 hF7; obtain ⟨A7, c7, rfl, _, _⟩ := hS7.form; have B7 := (B6.alloc (.cells #[.slice A6 r.length c6] 26)).chg hC7 hXF; obtain ⟨l7, q7, q7', q7'', f7⟩ := box3 B7))
            all_goals
              have hz6 := hC6.size
              simp only [World.size_alloc, World.drew] at hz6
              have hn6 : ∀ b ∈ F6, w11.heap.size ≤ b := fun b hb => by
                rcases hF6 b hb with h | h
                · simp at h; omega
                · simp at h; omega
              have hF7n : ∀ b ∈ F7, W8.heap.size ≤ b := fun b hb => by
                rcases hF7 b hb with h | h | h
                · exact HF.out b h
                · have := hn6 b h; omega
                · rw [World.size_alloc] at h; omega
              have hCa := ((((((HC.out.trans0 hy11).alloc (.cells #[] 3)).drew).trans hC6 (fun x hx => .inr (by simp at hx; omega))).alloc (.cells #[.slice A6 r.length c6] 26)).trans hC7 (fun x hx => .inr (HF.out x hx))).setCell (p := ⟨bX, 2, none⟩) (.inl (by simp)) (.slice A7 (sl ++ [r]).length c7)
              have hSf := hS7.chg ((Chg.refl [bX] w7).setCell (p := ⟨bX, 2, none⟩) (.inl (by simp)) (.slice A7 (sl ++ [r]).length c7)) (fun b hb h => by have := hF7n b hb; rw [List.mem_singleton.1 h] at this; omega)
              have hBf := B7.set32 (u := .slice A7 (sl ++ [r]).length c7)
              have hl1 : (sl ++ [r]).length = sl.length + 1 := by simp
              rw [hl1] at hCa hSf hBf
              have HL1 := Lib.hid hl1
              have HH := Lib.hid (And.intro hSf (And.intro hBf (And.intro hCa hF7n)))
              have HN7 := Lib.hid hN7
              clear hl1 hCa hF7n hSf hBf hS7 hC7 hN7 hF7 B7 hS6 hF6 hn6 hC6
              go_wp2
              exact ⟨⟨k + 1, A7, c7, F7, by go_num, by omega, by rw [HST.out, HL1.out]; exact HH.out.2.1, by rw [HST.out, HL1.out]; exact HH.out.1, Lib.hid HN7.out, Lib.hid HH.out.2.2.2, HH.out.2.2.1⟩, by simp [intOf]; omega⟩
        · obtain rfl : k = d.2.2.length := by omega
          rw [List.take_of_length_le (Nat.le_refl _)] at hB hS
          obtain ⟨sl, hsl⟩ : ∃ l, semiL d.1 d.2.2 d'.1 d'.2.2 = l := ⟨_, rfl⟩
          rw [hsl] at HZ hB hS
          obtain ⟨lr9, r90, r91, r92, fr9⟩ := box3 R9
          obtain ⟨lx9, x90, x91, x92, fx9⟩ := box3 hB
          obtain ⟨lp9, p90, p91, p92, fp9⟩ := box3 P9
          have hSv9 := hSv.chg hC (fun b hb h => (HF1.out b hb).2 (by simpa using h))
          have hlt9 := hSv.lt
          clear hsl
          go_wp2
          refine bodyPost_ret (v := .tuple #[.agg #[.slice A1 d.1.length c1, .int .i64 d.2.1, .slice A3 sl.length c3], .bool true]) (by simp [results, Tryz.results35, go_sem, *]) rfl ⟨_, _, _, F1 ++ F, by rw [HZ.out]; rfl, (by refine x'z ?_; repeat (with_reducible (first | exact x'a _ _ | exact x'b _ | exact x'c (by assumption) | refine x'd ?_ (by assumption) | refine x'e ?_ _ | refine x'f ?_ _ | refine x'g ?_ | refine x'h ?_ ?_ _ | refine x'i ?_ _ | refine x'j ?_ | refine x'k ?_ _ | refine x'l ?_ _ _ | refine x'm ?_ | assumption | (refine x'n ?_; omega) | omega))), ?_, ?_, fun b hb => ?_⟩
          · rw [HZ.out]
            refine sVR_mk (hSv9.chg (G := [w.heap.size + 1 + 1]) (by repeat (with_reducible (first | exact Chg.refl _ _ | refine Chg.trans0 ?_ (by assumption) | refine Chg.extS ?_ _ | refine Chg.alloc ?_ _ | refine Chg.drew ?_ | refine Chg.setCell ?_ (.inl (by simp)) _))) ?_) (OD.chg (E := sII) (G := [w.heap.size + 1 + 1]) ⟨_, rfl, hS⟩ (by repeat (with_reducible (first | exact Chg.refl _ _ | refine Chg.trans0 ?_ (by assumption) | refine Chg.extS ?_ _ | refine Chg.alloc ?_ _ | refine Chg.drew ?_ | refine Chg.setCell ?_ (.inl (by simp)) _))) ?_)
            · intro b hb h
              have := (HF1.out b hb).1
              rw [List.mem_singleton.1 h] at this
              omega
            · intro b hb h
              have := HF.out b hb
              rw [List.mem_singleton.1 h] at this
              omega
          · exact nodup_more (n := W8.heap.size) hSv.nodup HN.out hlt9 HF.out
          · have := size_of_ext xw7
            rcases List.mem_append.1 hb with h | h
            · have := (HF1.out b h).1; omega
            · have := HF.out b h; omega
end Go.Proofs.YtfigcfajkilhiaaGreat
