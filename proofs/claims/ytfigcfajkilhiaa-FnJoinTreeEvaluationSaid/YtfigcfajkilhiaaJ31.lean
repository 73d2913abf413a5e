/- Contracts of functions that the statement reaches. -/
import Derived.Test.YtfigcfajkilhiaaJ28
import Derived.Test.YtfigcfajkilhiaaJ30
import Derived.Test.YtfigcfajkilhiaaJ29
import Derived.Test.YtfigcfajkilhiaaJ14
import Derived.Test.YtfigcfajkilhiaaJ17
namespace Go.Proofs.Ytfigcfajkilhiaa
open Go.RowKit
theorem allB_row {d : Dbd} {q : Qd} (h : QOk d q) {z : List Int} (hz : z ∈ allB d q) : (z.length : Int) = q.1 ∧ rowV z = true := by
  obtain ⟨g, rfl, hg⟩ := (allB_g h).1 hz
  have := h.n1
  refine ⟨by simp [idV]; omega, rowV_iff.2 fun x hx => ?_⟩
  obtain ⟨v, hv, rfl⟩ := List.mem_map.1 hx
  rw [mem_idV] at hv
  obtain ⟨a, ha, hva⟩ := h.cov v hv.1 hv.2
  have hr := (rowsB_iff.1 (atFit_some (h.fit a ha)).2.1.rel).2.2.2.1 _ (hg a ha)
  exact rowV_iff.1 hr.2 _ (List.mem_map.2 ⟨v, hva, rfl⟩)
theorem allB_rowsB {d : Dbd} {q : Qd} (h : QOk d q) : rowsB q.1 (allB d q) = decide ((allB d q).length ≤ 4000) := by
  rw [Bool.eq_iff_iff, rowsB_iff, decide_eq_true_eq]
  have h1 := h.n1
  have h5 := h.n5
  exact ⟨fun k => k.2.2.1, fun k => ⟨by omega, by omega, k, fun r hr => allB_row h hr, asc_sortR _⟩⟩
theorem bind_impl {d : Dbd} {q : Qd} (h : iqfB d q = true) : bindR d q = if rowsB q.1 (allB d q) = true then some (q.1, allB d q) else none := by
  unfold bindR
  rw [allB_rowsB (qok h)]
  simp [h]
theorem bind_spec {d : Dbd} {q : Qd} (h : iqfB d q = true) : newR q.1 (walkL d q.2.1 (List.replicate q.1.toNat (-1))) = bindR d q := by
  have hk := qok h
  have hr : rowsIn q.1 (walkL d q.2.1 (List.replicate q.1.toNat (-1))) = true := rowsIn_iff.2 fun r hr => allB_row hk (mem_sortR.2 hr)
  rw [newR_eq hr, bind_impl h]
  rfl
theorem bind_no {d : Dbd} {q : Qd} (h : iqfB d q = false) : bindR d q = none := by
  unfold bindR
  rw [h]
  simp
theorem bind_ar {d : Dbd} {q : Qd} {r : Rd} (h : bindR d q = some r) : r.1 = q.1 := by
  unfold bindR at h
  split at h
  · injection h with h; rw [← h]
  · cases h
theorem bind_ok {d : Dbd} {q : Qd} {r : Rd} (h : bindR d q = some r) : r.2.length ≤ 4000 ∧ ∀ x ∈ r.2, x.length ≤ 5 := by
  unfold bindR at h
  split at h
  · rename_i hc
    injection h with h
    subst h
    refine ⟨hc.2, fun x hx => ?_⟩
    have := (allB_row (qok hc.1) hx).1
    have := (qok hc.1).n5
    omega
  · cases h
def evalR (d : Dbd) (q : Qd) : Option Rd := match bindR d q with | some r => projR r q.2.2 | none => none
theorem evalR_no {d : Dbd} {q : Qd} (h : bindR d q = none) : evalR d q = none := by unfold evalR; rw [h]
theorem evalR_some {d : Dbd} {q : Qd} {r : Rd} (h : bindR d q = some r) : evalR d q = projR r q.2.2 := by unfold evalR; rw [h]
def RowsP (l : List (List Int)) (w : World) (e : Ending) (w' : World) : Prop := ∃ A c F, e = .returned (.slice A l.length c) ∧ (∃ y, w' = ext w y) ∧ SV 48 1 sRow w' (.slice A l.length c) l F ∧ F.Nodup ∧ (∀ b ∈ F, w.heap.size ≤ b) ∧ l.length ≤ c ∧ RII w' A l
def CutV (o : Option Rd) (W : World) (va vb : Value) (wx : World) : Prop := ∃ b A c F, va = .pointer (some ⟨b, 0, none⟩) ∧ vb = .bool o.isSome ∧ BoxAt wx b #[.int .i64 (o.getD (0, [])).1, .slice A (o.getD (0, [])).2.length c] ∧ sII wx [.slice A (o.getD (0, [])).2.length c] (o.getD (0, [])).2 F ∧ F.Nodup ∧ (∀ x ∈ F, W.heap.size ≤ x) ∧ W.heap.size ≤ b ∧ ∃ y, wx = ext W y
theorem l8Walk_0 {A B C R : Option Addr} {c e g nr cr : Nat} {d : Dbd} {q : Qd} {row : List Int} {W0 w : World} (hd : WDb d) (h1 : RV 3 vTb W0 A d) (h2 : vQ W0 [.int .i64 q.1, .slice B q.2.1.length e, .slice C q.2.2.length g] q) (hq : QOk d q) (hnr : (nr : Int) = q.1) (hw : ∃ y, w = ext W0 y) (hr : row.length = nr) (hR : RI w R row) :
    Calls Try.prog 103 #[.agg #[.slice A d.length c], .agg #[.int .i64 q.1, .slice B q.2.1.length e, .slice C q.2.2.length g], .int .i64 0, .slice R nr cr] w (RowsP (walkL d q.2.1 row) w) := by
  have h := l8Walk_any (c := c) hd h1 h2 hq hnr q.2.1.length 0 R cr row w (by omega) hw hr hR
  rw [show (((0 : Nat) : Int)) = 0 from rfl] at h
  refine h.mono ?_
  rintro e w' ⟨A', c', F, rfl, hx, hS, hN, hF⟩
  rw [List.drop_zero] at hS ⊢
  obtain ⟨A2, c2, e2, hc, _, rv⟩ := hS.view (V := vSl 1 vI) (sSl_v sI_v)
  injection e2 with e2 _ e3
  subst e2 e3
  exact ⟨A', c', F, rfl, hx, hS, hN, hF, hc, rv⟩
set_option maxRecDepth 100000 in
set_option maxHeartbeats 16000000 in
theorem specAllBindings_any {A B C : Option Addr} {c e g : Nat} {d : Dbd} {q : Qd} {w : World} (hd : WDb d) (h1 : RV 3 vTb w A d) (hb : BQ q) (h2 : vQ w [.int .i64 q.1, .slice B q.2.1.length e, .slice C q.2.2.length g] q) :
    Calls Try.prog 31 #[.agg #[.slice A d.length c], .agg #[.int .i64 q.1, .slice B q.2.1.length e, .slice C q.2.2.length g]] w (RelRes ((bindR d q).getD (0, [])) w) := by
  have HD := Lib.hid hd
  have HB := Lib.hid hb
  have HV := Lib.hid h2
  obtain ⟨t1, ht1⟩ : ∃ t, iqfB d q = t := ⟨_, rfl⟩
  have HT1 := Lib.hid ht1
  have HQ := Lib.hid (fun (h : t1 = true) => qok (show iqfB d q = true by rw [ht1, h]))
  clear hd hb h2 ht1
  go_enter Try.func31, Try.ntmps31
  go_upto_region 1 with fail
  refine wp_name ?_
  intro W hW
  have xW : ∃ y, W = ext w y := by rw [hW.out]; exact (by refine x'z ?_; repeat (with_reducible (first | exact x'a _ _ | exact x'b _ | exact x'c (by assumption) | refine x'd ?_ (by assumption) | refine x'e ?_ _ | refine x'f ?_ _ | refine x'g ?_ | refine x'h ?_ ?_ _ | refine x'i ?_ _ | refine x'j ?_ | refine x'k ?_ _ | refine x'l ?_ _ _ | refine x'm ?_ | assumption | (refine x'n ?_; omega) | omega)))
  have PW : BoxAt W w.heap.size #[.slice A d.length c] := by rw [hW.out]; exact (by repeat (with_reducible (first | assumption | exact BoxAt.new _ _ _ | apply BoxAt.set10 | apply BoxAt.set2 | refine BoxAt.set2' ?_ (by omega) | apply BoxAt.setP0 | apply BoxAt.setP1 | refine BoxAt.setO ?_ (by omega) | refine BoxAt.alloc ?_ _ | refine BoxAt.drew ?_ | refine BoxAt.toExt ?_ (by assumption))))
  have QW : BoxAt W (w.heap.size + 1) #[.int .i64 q.1, .slice B q.2.1.length e, .slice C q.2.2.length g] := by
    rw [hW.out]
    refine ⟨?_, fun j => ?_, fun j => ?_⟩ <;> go_simp
  have RW : BoxAt W (w.heap.size + 1 + 1) #[.int .i64 0, .slice none 0 0] := by rw [hW.out]; refine ⟨?_, fun j => ?_, fun j => ?_⟩ <;> go_simp
  obtain ⟨lp, p0, fp⟩ := bx1 PW
  obtain ⟨lq, q0, q1, q2, fq⟩ := box3 QW
  clear hW
  cases t1 with
  | false =>
    have HZ := Lib.hid (show (bindR d q).getD (0, []) = (0, []) by rw [bind_no HT1.out]; rfl)
    go_wp2_with (go_at_call 75; refine (specIsQueryFor_any HD.out (h1.toExt xW) HB.out (VD.toExt HV.out xW)).mono ?_; rintro e w1 ⟨rfl, hx1⟩; rw [HT1.out]; obtain ⟨lr1, r10, r11, fr1⟩ := bx2 (RW.toExt hx1))
    refine bodyPost_ret (v := .agg #[.int .i64 0, .slice none 0 0]) (by simp [results, Try.results31, go_sem, *]) rfl ⟨_, _, [], rfl, (by refine x'z ?_; repeat (with_reducible (first | exact x'a _ _ | exact x'b _ | exact x'c (by assumption) | refine x'd ?_ (by assumption) | refine x'e ?_ _ | refine x'f ?_ _ | refine x'g ?_ | refine x'h ?_ ?_ _ | refine x'i ?_ _ | refine x'j ?_ | refine x'k ?_ _ | refine x'l ?_ _ _ | refine x'm ?_ | assumption | (refine x'n ?_; omega) | omega))), ?_, by simp, by simp⟩
    rw [HZ.out]
    exact sRel_mk (F := []) ⟨_, rfl, SV.nil⟩
  | true =>
    have hqk := HQ.out rfl
    have hn1 := hqk.n1
    have hn5 := hqk.n5
    obtain ⟨nr, hnr⟩ := Int.eq_ofNat_of_zero_le (show 0 ≤ q.1 by omega)
    have HNR := Lib.hid hnr.symm
    have HQK := Lib.hid hqk
    have hbl := fun r h => bind_ok (d := d) (q := q) (r := r) h
    have HNW := Lib.hid (bind_spec HT1.out)
    have HWL := Lib.hid (walkL_len (d := d) (ats := q.2.1) (row := List.replicate q.1.toNat (-1)) (fun a ha => ((atFit_some (hqk.fit a ha)).2.1).cnt))
    have HWE := Lib.hid (fun z (hz : z ∈ walkL d q.2.1 (List.replicate q.1.toNat (-1))) => walkL_el hz)
    have hat := hqk.at4
    have hpow : 16 ^ q.2.1.length ≤ 65536 := Nat.le_trans (Nat.pow_le_pow_right (by omega) hat) (by decide)
    have hnt : q.1.toNat = nr := by omega
    rw [hnt] at HNW HWL HWE
    obtain ⟨L, hL⟩ : ∃ L, walkL d q.2.1 (List.replicate nr (-1)) = L := ⟨_, rfl⟩
    rw [hL] at HNW HWL HWE
    have HLL := Lib.hid hL
    have hLl : L.length ≤ 1000000000 := by have := HWL.out; omega
    have HLE := Lib.hid (fun z (hz : z ∈ L) => show z.length ≤ 1000000000 by have := HWE.out z hz; rw [List.length_replicate] at this; omega)
    obtain ⟨o, ho⟩ : ∃ o, bindR d q = o := ⟨_, rfl⟩
    rw [ho] at HNW
    have HO := Lib.hid ho
    have hI64 : I64 q.1 := ⟨by omega, by omega⟩
    have hnr5 : nr ≤ 5 := by omega
    clear hqk hnr hbl hL ho hpow hnt
    go_wp2_with (go_at_call 75; refine (specIsQueryFor_any HD.out (h1.toExt xW) HB.out (VD.toExt HV.out xW)).mono ?_; rintro e w1 ⟨rfl, hx1⟩; rw [HT1.out])
    have P1 := PW.toExt hx1
    have Q1 := QW.toExt hx1
    have R1 := RW.toExt hx1
    have xw1 := trans_ext xW hx1
    have hE := SV.empty (α := Int) (te := 3) (size := 1) (E := sI) w1
    have hz1 := size_of_ext xw1
    have hR1 := R1.1
    clear lp p0 fp lq q0 q1 q2 fq PW QW RW
    go_loopw [5] (fun v wr => ∃ (k : Nat) (F : List Nat), k ≤ nr ∧ SV 3 1 sI wr v (List.replicate k (-1)) F ∧ Hid (∀ b ∈ F, w1.heap.size ≤ b) ∧ ∃ y, wr = ext w1 y) (fun v _ => nr - slLen v)
    case atStart => exact ⟨0, _, by omega, by simpa using hE, Lib.hid (by simp), alloc_ext _ _⟩
    case round =>
      obtain ⟨k, F, hk, hS, HF, hy⟩ := hrel
      obtain ⟨A5, c5, rfl, _, _⟩ := hS.form
      obtain ⟨lq1, q10, q11, q12, fq1⟩ := box3 (Q1.toExt hy)
      rw [List.length_replicate] at hS ⊢
      by_cases hlt : k < nr
      · have hlk : (List.replicate k (-1 : Int)).length + 1 ≤ 2000000000 := by simp; omega
        have HLR := Lib.hid (show List.replicate (k + 1) (-1 : Int) = List.replicate k (-1) ++ [-1] from List.replicate_succ')
        have hnq : (k : Int) < q.1 := by have := HNR.out; omega
        go_wp2_with (at_builtin; refine wpList_app1 (E := sI) (d := (-1 : Int)) rfl _ _ _ rfl tI rfl rfl rfl (by simp) (fun _ => ⟨rfl, rfl⟩) rfl (by simp [Value.oneCell']) hS hlk (by omega) ?_; intro v' w' F' hS' hC' hF'; obtain ⟨A6, c6, rfl, _, _⟩ := hS'.form)
        have hS9 : SV 3 1 sI w' (.slice A6 (k + 1) c6) (List.replicate (k + 1) (-1)) F' := by
          rw [HLR.out]
          have e9 : (List.replicate k (-1 : Int) ++ [-1]).length = k + 1 := by simp
          rw [e9] at hS'
          exact hS'
        refine ⟨⟨k + 1, F', by omega, hS9, Lib.hid (newer HF.out (size_of_ext hy) hF'), hC'.isExt hy HF.out⟩, ?_⟩
        simp [slLen]
        omega
      · obtain rfl : k = nr := by omega
        have hnq : ¬ ((k : Int) < q.1) := by have := HNR.out; omega
        have hRv := hS.toView sI_v
        have xw2 := trans_ext xw1 hy
        have P2 := P1.toExt hy
        have Q2 := Q1.toExt hy
        have R2 := R1.toExt hy
        obtain ⟨lp2, p20, fp2⟩ := bx1 P2
        go_upto_region 6 with fail
        obtain ⟨WC, rfl⟩ : ∃ W, W = wr := ⟨_, rfl⟩
        go_cut [6, 7] (CutV o WC)
        case first =>
          go_region_held3 (fun w' => (∀ a : Addr, a.block < WC.heap.size → w'.cell? a = WC.cell? a) ∧ ∃ y, w' = ext WC y) (first | exact heldE (by refine x'z ?_; repeat (with_reducible (first | exact x'a _ _ | exact x'b _ | exact x'c (by assumption) | refine x'd ?_ (by assumption) | refine x'e ?_ _ | refine x'f ?_ _ | refine x'g ?_ | refine x'h ?_ ?_ _ | refine x'i ?_ _ | refine x'j ?_ | refine x'k ?_ _ | refine x'l ?_ _ _ | refine x'm ?_ | assumption | (refine x'n ?_; omega) | omega)))) (first
            | (go_at_call 103; refine (l8Walk_0 HD.out h1 HV.out HQK.out HNR.out (trans_ext xw2 (by refine x'z ?_; repeat (with_reducible (first | exact x'a _ _ | exact x'b _ | exact x'c (by assumption) | refine x'd ?_ (by assumption) | refine x'e ?_ _ | refine x'f ?_ _ | refine x'g ?_ | refine x'h ?_ ?_ _ | refine x'i ?_ _ | refine x'j ?_ | refine x'k ?_ _ | refine x'l ?_ _ _ | refine x'm ?_ | assumption | (refine x'n ?_; omega) | omega)))) (by simp) (hRv.toExt (by refine x'z ?_; repeat (with_reducible (first | exact x'a _ _ | exact x'b _ | exact x'c (by assumption) | refine x'd ?_ (by assumption) | refine x'e ?_ _ | refine x'f ?_ _ | refine x'g ?_ | refine x'h ?_ ?_ _ | refine x'i ?_ _ | refine x'j ?_ | refine x'k ?_ _ | refine x'l ?_ _ _ | refine x'm ?_ | assumption | (refine x'n ?_; omega) | omega))))).mono ?_; rw [HLL.out]; rintro e w5 ⟨A7, c7, F5, rfl, hx5, hS5, hN5, hF5, hc5, rv5⟩; have hz5 : WC.heap.size ≤ w5.heap.size := size_of_ext (by refine x'z ?_; repeat (with_reducible (first | exact x'a _ _ | exact x'b _ | exact x'c (by assumption) | refine x'd ?_ (by assumption) | refine x'e ?_ _ | refine x'f ?_ _ | refine x'g ?_ | refine x'h ?_ ?_ _ | refine x'i ?_ _ | refine x'j ?_ | refine x'k ?_ _ | refine x'l ?_ _ _ | refine x'm ?_ | assumption | (refine x'n ?_; omega) | omega))); (first | (have L5 : BoxAt w5 WC.heap.size #[.int .i64 0, .slice none 0 0] := BoxAt.toExt (BoxAt.new WC _ _) hx5; obtain ⟨z1, z2, z3, z4⟩ := bx2 L5) | (have L5 : BoxAt w5 WC.heap.size #[.int .i64 0, .slice none 0 0] := BoxAt.toExt (BoxAt.new WC.drew _ _) hx5; obtain ⟨z1, z2, z3, z4⟩ := bx2 L5) | (have L5 : BoxAt w5 WC.heap.size #[.int .i64 0, .slice none 0 0] := BoxAt.toExt (BoxAt.new WC _ _).drew hx5; obtain ⟨z1, z2, z3, z4⟩ := bx2 L5) | skip))
            | (go_at_call 102; refine (specNewRelation_any hI64 hLl hc5 HLE.out (rv5.toExt (by refine x'z ?_; repeat (with_reducible (first | exact x'a _ _ | exact x'b _ | exact x'c (by assumption) | refine x'd ?_ (by assumption) | refine x'e ?_ _ | refine x'f ?_ _ | refine x'g ?_ | refine x'h ?_ ?_ _ | refine x'i ?_ _ | refine x'j ?_ | refine x'k ?_ _ | refine x'l ?_ _ _ | refine x'm ?_ | assumption | (refine x'n ?_; omega) | omega))))).mono ?_; rw [HNW.out]; rintro e w3 ⟨u0, u1, F3, rfl, hx3, hS3, hN3, hF3⟩; have hG3 : ∀ x ∈ F3, w5.heap.size ≤ x := (fun x hx => Nat.le_trans (size_of_ext (by refine x'z ?_; repeat (with_reducible (first | exact x'a _ _ | exact x'b _ | exact x'c (by assumption) | refine x'd ?_ (by assumption) | refine x'e ?_ _ | refine x'f ?_ _ | refine x'g ?_ | refine x'h ?_ ?_ _ | refine x'i ?_ _ | refine x'j ?_ | refine x'k ?_ _ | refine x'l ?_ _ _ | refine x'm ?_ | assumption | (refine x'n ?_; omega) | omega)))) (hF3 x hx)); obtain ⟨A3, c3, rfl, rfl, hI3⟩ := sRel_form hS3; have hz3 : w5.heap.size ≤ w3.heap.size := size_of_ext (by refine x'z ?_; repeat (with_reducible (first | exact x'a _ _ | exact x'b _ | exact x'c (by assumption) | refine x'd ?_ (by assumption) | refine x'e ?_ _ | refine x'f ?_ _ | refine x'g ?_ | refine x'h ?_ ?_ _ | refine x'i ?_ _ | refine x'j ?_ | refine x'k ?_ _ | refine x'l ?_ _ _ | refine x'm ?_ | assumption | (refine x'n ?_; omega) | omega))); (first | (have L3 : BoxAt w3 WC.heap.size #[.int .i64 0, .slice none 0 0] := BoxAt.toExt L5 hx3; obtain ⟨z1, z2, z3, z4⟩ := bx2 L3) | skip); (first | (have M3 : BoxAt w3 w5.heap.size #[.int .i64 0, .slice none 0 0] := BoxAt.toExt (BoxAt.new w5 _ _) hx3; obtain ⟨y1, y2, y3, y4⟩ := bx2 M3) | (have M3 : BoxAt w3 w5.heap.size #[.int .i64 0, .slice none 0 0] := BoxAt.toExt (BoxAt.new w5.drew _ _) hx3; obtain ⟨y1, y2, y3, y4⟩ := bx2 M3) | (have M3 : BoxAt w3 w5.heap.size #[.int .i64 0, .slice none 0 0] := BoxAt.toExt (BoxAt.new w5 _ _).drew hx3; obtain ⟨y1, y2, y3, y4⟩ := bx2 M3) | skip)))
          all_goals
            go_wp2_with fail
            go_meet
            have hl3 := SMono.lt hI3
            have hdr : WC.drew.heap.size = WC.heap.size := rfl
            first
              | exact ⟨w3.heap.size, A3, c3, F3, rfl, rfl, BoxAt.new _ _ _, OD.toExt hI3 (alloc_ext _ _), hN3, fun x hx => by have := hG3 x hx; omega, by omega, (by refine x'z ?_; repeat (with_reducible (first | exact x'a _ _ | exact x'b _ | exact x'c (by assumption) | refine x'd ?_ (by assumption) | refine x'e ?_ _ | refine x'f ?_ _ | refine x'g ?_ | refine x'h ?_ ?_ _ | refine x'i ?_ _ | refine x'j ?_ | refine x'k ?_ _ | refine x'l ?_ _ _ | refine x'm ?_ | assumption | (refine x'n ?_; omega) | omega)))⟩
              | exact ⟨WC.heap.size, A3, c3, F3, rfl, rfl, (by repeat (with_reducible (first | assumption | exact BoxAt.new _ _ _ | apply BoxAt.set2 | refine BoxAt.set2' ?_ (by omega) | apply BoxAt.setP0 | apply BoxAt.setP1 | refine BoxAt.setO ?_ (by omega) | refine BoxAt.alloc ?_ _ | refine BoxAt.drew ?_ | refine BoxAt.toExt ?_ (by assumption)))), OD.chg (G := [WC.heap.size]) hI3 (by repeat (with_reducible (first | exact Chg.refl _ _ | refine Chg.trans0 ?_ (by assumption) | refine Chg.extS ?_ _ | refine Chg.alloc ?_ _ | refine Chg.drew ?_ | refine Chg.setCell ?_ (.inl (by simp)) _))) (fun x hx hm => by have := hG3 x hx; have h9 := L5.1; rw [List.mem_singleton.1 hm] at this; omega), hN3, fun x hx => by have := hG3 x hx; omega, by omega, (by refine x'z ?_; repeat (with_reducible (first | exact x'a _ _ | exact x'b _ | exact x'c (by assumption) | refine x'd ?_ (by assumption) | refine x'e ?_ _ | refine x'f ?_ _ | refine x'g ?_ | refine x'h ?_ ?_ _ | refine x'i ?_ _ | refine x'j ?_ | refine x'k ?_ _ | refine x'l ?_ _ _ | refine x'm ?_ | assumption | (refine x'n ?_; omega) | omega)))⟩
              | exact ⟨w5.heap.size, A3, c3, F3, rfl, rfl, (by repeat (with_reducible (first | assumption | exact BoxAt.new _ _ _ | apply BoxAt.set2 | refine BoxAt.set2' ?_ (by omega) | apply BoxAt.setP0 | apply BoxAt.setP1 | refine BoxAt.setO ?_ (by omega) | refine BoxAt.alloc ?_ _ | refine BoxAt.drew ?_ | refine BoxAt.toExt ?_ (by assumption)))), OD.chg (G := [w5.heap.size]) hI3 (by repeat (with_reducible (first | exact Chg.refl _ _ | refine Chg.trans0 ?_ (by assumption) | refine Chg.extS ?_ _ | refine Chg.alloc ?_ _ | refine Chg.drew ?_ | refine Chg.setCell ?_ (.inl (by simp)) _))) (fun x hx hm => by have := hF3 x hx; rw [World.size_alloc] at this; rw [List.mem_singleton.1 hm] at this; omega), hN3, fun x hx => by have := hG3 x hx; omega, by omega, (by refine x'z ?_; repeat (with_reducible (first | exact x'a _ _ | exact x'b _ | exact x'c (by assumption) | refine x'd ?_ (by assumption) | refine x'e ?_ _ | refine x'f ?_ _ | refine x'g ?_ | refine x'h ?_ ?_ _ | refine x'i ?_ _ | refine x'j ?_ | refine x'k ?_ _ | refine x'l ?_ _ _ | refine x'm ?_ | assumption | (refine x'n ?_; omega) | omega)))⟩
        obtain ⟨bX, A3, c3, F3, rfl, rfl, BX, hI3, hN3, hF3, hbX, hxX⟩ := hcut
        obtain ⟨w4, rfl⟩ : ∃ W, W = wc := ⟨_, rfl⟩
        have R4 := R2.toExt hxX
        obtain ⟨lr4, r40, r41, fr4⟩ := bx2 R4
        obtain ⟨lx4, x40, x41, fx4⟩ := bx2 BX
        have xw4 := trans_ext xw2 hxX
        have hzy := size_of_ext hy
        clear lp2 p20 fp2 lq1 q10 q11 q12 fq1
        cases o with
        | none =>
          simp only [Option.getD_none, Option.isSome_none] at x40 x41 ⊢
          go_wp2_with fail
          refine bodyPost_ret (v := .agg #[.int .i64 0, .slice none 0 0]) (by simp [results, Try.results31, go_sem, *]) rfl ⟨_, _, [], rfl, (by refine x'z ?_; repeat (with_reducible (first | exact x'a _ _ | exact x'b _ | exact x'c (by assumption) | refine x'd ?_ (by assumption) | refine x'e ?_ _ | refine x'f ?_ _ | refine x'g ?_ | refine x'h ?_ ?_ _ | refine x'i ?_ _ | refine x'j ?_ | refine x'k ?_ _ | refine x'l ?_ _ _ | refine x'm ?_ | assumption | (refine x'n ?_; omega) | omega))), ?_, by simp, by simp⟩
          rw [HO.out]
          exact sRel_mk (F := []) ⟨_, rfl, SV.nil⟩
        | some r =>
          simp only [Option.getD_some, Option.isSome_some] at x40 x41 hI3 ⊢
          have HI3 := Lib.hid hI3
          clear hI3
          go_wp2_with fail
          refine bodyPost_ret (v := .agg #[.int .i64 r.1, .slice A3 r.2.length c3]) (by simp [results, Try.results31, go_sem, *]) rfl ⟨_, _, F3, rfl, (by refine x'z ?_; repeat (with_reducible (first | exact x'a _ _ | exact x'b _ | exact x'c (by assumption) | refine x'd ?_ (by assumption) | refine x'e ?_ _ | refine x'f ?_ _ | refine x'g ?_ | refine x'h ?_ ?_ _ | refine x'i ?_ _ | refine x'j ?_ | refine x'k ?_ _ | refine x'l ?_ _ _ | refine x'm ?_ | assumption | (refine x'n ?_; omega) | omega))), ?_, hN3, fun b hb => ?_⟩
          · rw [HO.out]
            refine sRel_mk (z := r.1) (rows := r.2) ?_
            refine OD.chg (E := sII) (G := [w.heap.size + 1 + 1]) HI3.out (by repeat (with_reducible (first | exact Chg.refl _ _ | refine Chg.trans0 ?_ (by assumption) | refine Chg.extS ?_ _ | refine Chg.alloc ?_ _ | refine Chg.drew ?_ | refine Chg.setCell ?_ (.inl (by simp)) _))) ?_
            intro b hb h
            have := hF3 b hb
            rw [List.mem_singleton.1 h] at this
            omega
          · have := hF3 b hb
            omega
end Go.Proofs.Ytfigcfajkilhiaa
namespace Go.Proofs.Ytfigcfajkilhiaa
open Go.RowKit
def allF (p : Nat → Bool) : Nat → Nat → Bool
  | 0, _ => true
  | f + 1, k => p k && allF p f (k + 1)
def findF (p : Nat → Bool) : Nat → Nat → Option Nat
  | 0, _ => none
  | f + 1, k => if p k = true then some k else findF p f (k + 1)
theorem allF_step {p : Nat → Bool} {n k : Nat} (h : k < n) : allF p (n - k) k = (p k && allF p (n - (k + 1)) (k + 1)) := by
  rw [show n - k = (n - (k + 1)) + 1 by omega, allF]
theorem allF_end {p : Nat → Bool} {n k : Nat} (h : ¬ k < n) : allF p (n - k) k = true := by
  rw [show n - k = 0 by omega, allF]
theorem findF_step {p : Nat → Bool} {n k : Nat} (h : k < n) : findF p (n - k) k = if p k = true then some k else findF p (n - (k + 1)) (k + 1) := by
  rw [show n - k = (n - (k + 1)) + 1 by omega, findF]
theorem findF_end {p : Nat → Bool} {n k : Nat} (h : ¬ k < n) : findF p (n - k) k = none := by
  rw [show n - k = 0 by omega, findF]
theorem allF_iff {p : Nat → Bool} : ∀ (f k : Nat), allF p f k = true ↔ ∀ j, k ≤ j → j < k + f → p j = true
  | 0, k => by simp [allF]; omega
  | f + 1, k => by
    rw [allF, Bool.and_eq_true, allF_iff f (k + 1)]
    constructor
    · rintro ⟨h1, h2⟩ j hj hj2
      by_cases e : j = k
      · subst e; exact h1
      · exact h2 j (by omega) (by omega)
    · intro h
      exact ⟨h k (by omega) (by omega), fun j h1 h2 => h j (by omega) (by omega)⟩
theorem findF_some {p : Nat → Bool} {i : Nat} : ∀ (f k : Nat), findF p f k = some i → k ≤ i ∧ i < k + f ∧ p i = true
  | 0, k, h => by simp [findF] at h
  | f + 1, k, h => by
    rw [findF] at h
    split at h
    · rename_i hp
      injection h with h
      subst h
      exact ⟨by omega, by omega, hp⟩
    · have := findF_some f (k + 1) h
      exact ⟨by omega, by omega, this.2.2⟩
def vof (ats : List At) (j : Nat) : List Int := (ats.getD j (⟨#[]⟩, [])).2
theorem vof_get {ats : List At} {j : Nat} (h : j < ats.length) : ats[j].2 = vof ats j := by
  unfold vof; rw [List.getD_eq_getElem?_getD, List.getElem?_eq_getElem h]; rfl
def blk (ats : List At) (gone : List Bool) (i : Nat) (v : Int) (j : Nat) : Bool := decide (j ≠ i) && !gone.getD j true && decide (v ∈ vof ats j)
def okV (ats : List At) (gone : List Bool) (i k : Nat) (v : Int) : Bool := allF (fun j => !blk ats gone i v j || decide (v ∈ vof ats k)) ats.length 0
def earOK (ats : List At) (gone : List Bool) (i k : Nat) : Bool := (vof ats i).all (okV ats gone i k)
def canK (ats : List At) (gone : List Bool) (i k : Nat) : Bool := decide (k ≠ i) && !gone.getD k true && earOK ats gone i k
def ear (ats : List At) (gone : List Bool) (i : Nat) : Option Nat := findF (canK ats gone i) ats.length 0
def canI (ats : List At) (gone : List Bool) (i : Nat) : Bool := !gone.getD i true && (ear ats gone i).isSome
def stepG (ats : List At) (gone : List Bool) : Option Nat := findF (canI ats gone) ats.length 0
def oInt? (o : Option Nat) : Int := match o with | some k => k | none => -1
def gyo (ats : List At) : Nat → List Int → List Int → List Bool → List Int × List Int
  | 0, rem, par, _ => (rem, par)
  | f + 1, rem, par, gone => match stepG ats gone with
    | none => (rem, par)
    | some i => gyo ats f (rem ++ [(i : Int)]) (par.set i (oInt? (ear ats gone i))) (gone.set i true)
def leftN (gone : List Bool) : Nat := gone.countP (! ·)
def gyoQ (ats : List At) : List Int × List Int := gyo ats ats.length [] (List.replicate ats.length (-1)) (List.replicate ats.length false)
theorem leftN_set : ∀ {gone : List Bool} {i : Nat}, gone.getD i true = false → leftN gone = leftN (gone.set i true) + 1
  | [], i, h => by simp at h
  | b :: bs, 0, h => by
    simp at h
    subst h
    simp [leftN]
  | b :: bs, i + 1, h => by
    have := leftN_set (gone := bs) (i := i) (by simpa using h)
    simp only [leftN, List.countP_cons, List.set_cons_succ] at this ⊢
    omega
theorem stepG_some {ats : List At} {gone : List Bool} {i : Nat} (h : stepG ats gone = some i) : i < ats.length ∧ gone.getD i true = false ∧ ∃ k, ear ats gone i = some k ∧ k < ats.length := by
  obtain ⟨_, h1, h2⟩ := findF_some _ _ h
  unfold canI at h2
  simp only [Bool.and_eq_true, Bool.not_eq_true', Option.isSome_iff_exists] at h2
  obtain ⟨h3, k, hk⟩ := h2
  have := findF_some _ _ hk
  exact ⟨by omega, h3, k, hk, by omega⟩
theorem gyo_none {ats : List At} {gone : List Bool} {rem par : List Int} (h : stepG ats gone = none) : ∀ f, gyo ats f rem par gone = (rem, par)
  | 0 => rfl
  | f + 1 => by rw [gyo, h]
theorem gyo_some {ats : List At} {gone : List Bool} {rem par : List Int} {i k : Nat} (h : stepG ats gone = some i) (hk : ear ats gone i = some k) :
    gyo ats (leftN gone) rem par gone = gyo ats (leftN (gone.set i true)) (rem ++ [(i : Int)]) (par.set i (k : Int)) (gone.set i true) := by
  obtain ⟨_, h2, _⟩ := stepG_some h
  rw [leftN_set h2, gyo, h]
  show gyo _ _ _ (par.set i (oInt? (ear ats gone i))) _ = _
  rw [hk]
  rfl
theorem leftN_rep (n : Nat) : leftN (List.replicate n false) = n := by simp [leftN, List.countP_replicate]
theorem gyo_len {ats : List At} : ∀ (f : Nat) (rem par : List Int) (gone : List Bool), (gyo ats f rem par gone).1.length ≤ rem.length + f ∧ (gyo ats f rem par gone).2.length = par.length
  | 0, rem, par, gone => by simp [gyo]
  | f + 1, rem, par, gone => by
    rw [gyo]
    split
    · exact ⟨by simp, rfl⟩
    · rename_i i _
      have := gyo_len (ats := ats) f (rem ++ [(i : Int)]) (par.set i (oInt? (ear ats gone i))) (gone.set i true)
      simp at this
      exact ⟨by omega, this.2⟩
def okS (ats : List At) (gone : List Bool) (i k : Nat) (v : Nat) : Bool := !decide ((v : Int) ∈ vof ats i) || !(!allF (fun j => !blk ats gone i v j) ats.length 0) || decide ((v : Int) ∈ vof ats k)
theorem earOK_spec {ats : List At} {gone : List Bool} {i k n : Nat} (h : ∀ v ∈ vof ats i, 0 ≤ v ∧ v < n) : allF (okS ats gone i k) n 0 = earOK ats gone i k := by
  rw [Bool.eq_iff_iff, allF_iff]
  unfold earOK
  rw [List.all_eq_true]
  constructor
  · intro h1 v hv
    have hb := h v hv
    obtain ⟨m, rfl⟩ : ∃ m : Nat, v = m := ⟨v.toNat, by omega⟩
    have h2 := h1 m (by omega) (by omega)
    unfold okS at h2
    unfold okV
    rw [allF_iff]
    intro j hj hj2
    simp only [hv, decide_true, Bool.not_true, Bool.false_or, Bool.not_not, Bool.or_eq_true, allF_iff] at h2
    rcases h2 with h2 | h2
    · rw [h2 j hj hj2]; rfl
    · rw [h2]; simp
  · intro h1 v _ _
    unfold okS
    by_cases hv : (v : Int) ∈ vof ats i
    · have h2 := h1 v hv
      unfold okV at h2
      rw [allF_iff] at h2
      by_cases hk : (v : Int) ∈ vof ats k
      · simp [hk]
      · simp only [hk, decide_false, Bool.or_false] at h2
        simp only [hv, decide_true, Bool.not_true, Bool.false_or, Bool.not_not, hk, decide_false, Bool.or_false, allF_iff]
        exact h2
    · simp [hv]
end Go.Proofs.Ytfigcfajkilhiaa
namespace Go.Proofs.Ytfigcfajkilhiaa
open Go.RowKit
theorem RV.atA' {w : World} {b o : Nat} {d : List At} (h : RV 2 vAt w (some ⟨b, o, none⟩) d) {k : Nat} (hk : k < d.length) : b < w.heap.size ∧ ∃ s A' c', w.cell? ⟨b, o + k * 2, none⟩ = some (.string s) ∧ w.cell? ⟨b, o + k * 2 + 1, none⟩ = some (.slice A' (vof d k).length c') ∧ RI w A' (vof d k) := by
  obtain ⟨b', o', A', c', e, h1, h2, h3, h4⟩ := h.atA hk
  injection e with e
  injection e with e1 e2 _
  subst e1 e2
  rw [vof_get hk] at h3 h4
  exact ⟨h1, _, A', c', h2, h3, h4⟩
theorem RV.place {w : World} {α : Type} {size : Nat} {E : VE α} {A : Option Addr} {d : List α} (h : RV size E w A d) (hk : 0 < d.length) : ∃ b o, A = some ⟨b, o, none⟩ := by
  obtain ⟨b, o, e, _⟩ := h (by intro e; rw [e] at hk; simp at hk)
  exact ⟨b, o, e⟩
theorem RV.at0 {w : World} {g : Nat} {d : List Bool} (h : RB w (some ⟨g, 0, none⟩) d) {k : Nat} (hk : k < d.length) : g < w.heap.size ∧ w.cell? ⟨g, k, none⟩ = some (.bool (d.getD k true)) := by
  obtain ⟨b', o', e, h1, h2⟩ := h.atB hk
  injection e with e
  injection e with e1 e2 _
  subst e1 e2
  rw [Nat.zero_add] at h2
  exact ⟨h1, by rw [h2, List.getD_eq_getElem?_getD, List.getElem?_eq_getElem hk]; rfl⟩
theorem box1 {w : World} {B : Nat} {a : Value} (h : BoxAt w B #[a]) : B < w.heap.size ∧ w.cell? ⟨B, 0, none⟩ = some a ∧ ∀ j, w.frozen? ⟨B, j, none⟩ = false := ⟨h.1, h.2.1 0, h.2.2⟩
theorem cellX {w wr : World} {b o : Nat} {u : Value} (hy : ∃ y, wr = ext w y) (hb : b < w.heap.size) (h : w.cell? ⟨b, o, none⟩ = some u) : wr.cell? ⟨b, o, none⟩ = some u := by
  obtain ⟨y, rfl⟩ := hy
  rw [cell_ext hb]; exact h
theorem ltX {w wr : World} {b : Nat} (hy : ∃ y, wr = ext w y) (hb : b < w.heap.size) : b < wr.heap.size := Nat.lt_of_lt_of_le hb (size_of_ext hy)
end Go.Proofs.Ytfigcfajkilhiaa
