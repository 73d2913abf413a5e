/- Fractional covers: the program's way and the reference's. -/
import Derived.Test.YtgehnacmgofobaaDoorCover1
namespace Go.Proofs.YtgehnacmgofobaaDoor
open Go.RowKit

def selW (v : Int) : List At → List (Int × Int) → List (Int × Int)
  | a :: al, x :: xs => if v ∈ a.2 then x :: selW v al xs else selW v al xs
  | _, _ => []
def covOk (ats : List At) (ws : List (Int × Int)) (v : Int) : Bool := match sumR (0, 1) (selW v ats ws) with
  | none => false
  | some s => !decide (cmpR s (1, 1) < 0)
def covA (ats : List At) (ws : List (Int × Int)) : Nat → Nat → Bool
  | 0, _ => true
  | m + 1, k => covOk ats ws k && covA ats ws m (k + 1)
def covB (d : Qd) (ws : List (Int × Int)) : Bool := vqB d && (ws.all admR && decide (ws.length = d.2.1.length)) && covA d.2.1 ws d.1.toNat 0
theorem selW_step {v : Int} {ats : List At} {ws : List (Int × Int)} {j : Nat} (h : j < ats.length) (h' : j < ws.length) : selW v (ats.drop j) (ws.drop j) = if v ∈ ats[j].2 then ws[j] :: selW v (ats.drop (j + 1)) (ws.drop (j + 1)) else selW v (ats.drop (j + 1)) (ws.drop (j + 1)) := by
  rw [List.drop_eq_getElem_cons h, List.drop_eq_getElem_cons h', selW]
theorem selW_end {v : Int} {ats : List At} {ws : List (Int × Int)} {j : Nat} (h : ¬ j < ats.length) : selW v (ats.drop j) (ws.drop j) = [] := by
  rw [List.drop_eq_nil_of_le (by omega)]
  cases ws.drop j <;> rfl
theorem covA_step {ats : List At} {ws : List (Int × Int)} {n k : Nat} (h : k < n) : covA ats ws (n - k) k = (covOk ats ws k && covA ats ws (n - (k + 1)) (k + 1)) := by
  rw [show n - k = (n - (k + 1)) + 1 by omega, covA]
theorem covA_end {ats : List At} {ws : List (Int × Int)} {n k : Nat} (h : ¬ k < n) : covA ats ws (n - k) k = true := by
  rw [show n - k = 0 by omega, covA]
theorem covOk_none {ats : List At} {ws : List (Int × Int)} {v : Int} (h : sumR (0, 1) (selW v ats ws) = none) : covOk ats ws v = false := by unfold covOk; rw [h]
theorem covOk_lt {ats : List At} {ws : List (Int × Int)} {v : Int} {s : Int × Int} (h : sumR (0, 1) (selW v ats ws) = some s) (h2 : cmpR s (1, 1) < 0) : covOk ats ws v = false := by unfold covOk; rw [h]; simp [h2]
theorem covOk_ge {ats : List At} {ws : List (Int × Int)} {v : Int} {s : Int × Int} (h : sumR (0, 1) (selW v ats ws) = some s) (h2 : ¬ cmpR s (1, 1) < 0) : covOk ats ws v = true := by unfold covOk; rw [h]; simp [h2]
theorem cellE {wr W : World} {b o : Nat} {u : Value} (hy : ∃ y, W = ext wr y) (hb : b < wr.heap.size) (h : wr.cell? ⟨b, o, none⟩ = some u) : W.cell? ⟨b, o, none⟩ = some u ∧ b < W.heap.size := by
  obtain ⟨y, rfl⟩ := hy
  exact ⟨by rw [cell_ext hb]; exact h, lt_ext hb⟩
def OneAt (w : World) : Prop := w.cell? ⟨0, 0, none⟩ = some (.int .i64 1) ∧ w.cell? ⟨0, 1, none⟩ = some (.int .i64 1) ∧ 0 < w.heap.size
theorem OneAt.toExt {w w' : World} (h : OneAt w) (hx : ∃ y, w' = ext w y) : OneAt w' := by
  obtain ⟨h1, h2, h3⟩ := h
  exact ⟨(cellE hx h3 h1).1, (cellE hx h3 h2).1, (cellE hx h3 h1).2⟩
set_option maxRecDepth 100000 in
set_option maxHeartbeats 8000000 in
theorem IsFractionalCover_any {A B C : Option Addr} {c e1 g : Nat} {d : Qd} {xs : List (Int × Int)} {w : World} (hg : OneAt w) (hb : WQ d) (h : vQ w [.int .i64 d.1, .slice A d.2.1.length c, .slice B d.2.2.length e1] d) (hx : xs.length ≤ 1000000000) (hR : RR w C xs) :
    Calls Tryd.prog 10 #[.agg #[.int .i64 d.1, .slice A d.2.1.length c, .slice B d.2.2.length e1], .slice C xs.length g] w fun e w' => e = .returned (.bool (covB d xs)) ∧ ∃ y, w' = ext w y := by
  obtain ⟨r1, r2, hcap⟩ := vQ_get h
  have HV := Lib.hid h
  have HQ := Lib.hid hb
  obtain ⟨hz, b1, b2⟩ := hb
  obtain ⟨z, ats, out⟩ := d
  dsimp only at r1 r2 hcap hz b1 b2 HV ⊢
  have r1 := (vAts_get r1).2
  have m2 : out.length ≤ 1000000000 := by omega
  have b4 := b1.1
  have Hx := Lib.hid b1.2
  clear h b1
  have HG := Lib.hid hg
  obtain ⟨t1, ht1⟩ : ∃ t, vqB (z, ats, out) = t := ⟨_, rfl⟩
  obtain ⟨t2, ht2⟩ : ∃ t, xs.all admR = t := ⟨_, rfl⟩
  have HT1 := Lib.hid ht1
  have HT2 := Lib.hid ht2
  have HE := Lib.hid (show covB (z, ats, out) xs = (t1 && (t2 && decide (xs.length = ats.length)) && covA ats xs z.toNat 0) by unfold covB; rw [ht1, ht2])
  clear hg
  cases t1 with
  | false =>
    clear ht1 ht2
    go_enter Tryd.func10, Tryd.ntmps10
    go_upto_region 1 with fail
    refine wp_name ?_
    intro W hW
    have xW : ∃ y, W = ext w y := by rw [hW.out]; exact (by refine Chg.isExt (F := []) ?_ (refl_ext _) (by simp); repeat (with_reducible (first | exact Chg.refl _ _ | exact Nat.le_refl _ | exact Chg.ofExt (by assumption) | refine Chg.trans0 ?_ (by assumption) | refine Chg.extS ?_ _ | refine Chg.alloc ?_ _ | refine Chg.drew ?_ | refine Chg.setCellE ?_ ?_ _ | refine le_addk ?_ _ | refine le_ext ?_ | refine le_alloc ?_ _ | refine le_setC ?_ _ _ | refine le_drew ?_ | assumption | (refine Nat.le_of_lt ?_; omega) | omega)))
    have BW0 : BoxAt W (w.heap.size) #[.int .i64 z, .slice A ats.length c, .slice B out.length e1] := by rw [hW.out]; refine ⟨?_, fun j => ?_, fun j => ?_⟩ <;> go_simp
    obtain ⟨lW0, bW0, fW0⟩ := BW0
    have cW0_0 : W.cell? ⟨w.heap.size, 0, none⟩ = some (.int .i64 z) := bW0 0
    have cW0_1 : W.cell? ⟨w.heap.size, 1, none⟩ = some (.slice A ats.length c) := bW0 1
    have cW0_2 : W.cell? ⟨w.heap.size, 2, none⟩ = some (.slice B out.length e1) := bW0 2
    clear hW
    go_wp2_with (go_at_call 25; refine (IsValidQuery_w (d := (z, ats, out)) HQ.out (VD.toExt HV.out (by refine Chg.isExt (F := []) ?_ (refl_ext _) (by simp); repeat (with_reducible (first | exact Chg.refl _ _ | exact Nat.le_refl _ | exact Chg.ofExt (by assumption) | refine Chg.trans0 ?_ (by assumption) | refine Chg.extS ?_ _ | refine Chg.alloc ?_ _ | refine Chg.drew ?_ | refine Chg.setCellE ?_ ?_ _ | refine le_addk ?_ _ | refine le_ext ?_ | refine le_alloc ?_ _ | refine le_setC ?_ _ _ | refine le_drew ?_ | assumption | (refine Nat.le_of_lt ?_; omega) | omega))))).mono ?_; rintro e w1 ⟨rfl, hx1⟩; rw [HT1.out])
    go_ret
    exact ⟨by rw [HE.out]; rfl, (by refine Chg.isExt (F := []) ?_ (refl_ext _) (by simp); repeat (with_reducible (first | exact Chg.refl _ _ | exact Nat.le_refl _ | exact Chg.ofExt (by assumption) | refine Chg.trans0 ?_ (by assumption) | refine Chg.extS ?_ _ | refine Chg.alloc ?_ _ | refine Chg.drew ?_ | refine Chg.setCellE ?_ ?_ _ | refine le_addk ?_ _ | refine le_ext ?_ | refine le_alloc ?_ _ | refine le_setC ?_ _ _ | refine le_drew ?_ | assumption | (refine Nat.le_of_lt ?_; omega) | omega)))⟩
  | true =>
    have hz5 : 1 ≤ z ∧ z ≤ 5 := by
      unfold vqB at ht1
      simp only [Bool.and_eq_true] at ht1
      exact inB_t ht1.1.1.1.1
    obtain ⟨n, rfl⟩ : ∃ n : Nat, z = n := ⟨z.toNat, by omega⟩
    have hn5 : n ≤ 5 := by omega
    have ha4 : ats.length ≤ 4 := by
      unfold vqB at ht1
      simp only [Bool.and_eq_true] at ht1
      have := inB_t ht1.1.1.1.2
      omega
    clear ht1 ht2 hz5 hz
    by_cases hl : xs.length = ats.length
    · have q1 : ((xs.length : Int) != (ats.length : Int)) = false := by simp [hl]
      have hl1 : xs.length ≤ ats.length := by omega
      have hl2 : ats.length ≤ xs.length := by omega
      rw [decide_eq_true hl] at HE
      clear hl
      cases t2 with
      | false =>
        go_enter Tryd.func10, Tryd.ntmps10
        go_upto_region 1 with fail
        refine wp_name ?_
        intro W hW
        have xW : ∃ y, W = ext w y := by rw [hW.out]; exact (by refine Chg.isExt (F := []) ?_ (refl_ext _) (by simp); repeat (with_reducible (first | exact Chg.refl _ _ | exact Nat.le_refl _ | exact Chg.ofExt (by assumption) | refine Chg.trans0 ?_ (by assumption) | refine Chg.extS ?_ _ | refine Chg.alloc ?_ _ | refine Chg.drew ?_ | refine Chg.setCellE ?_ ?_ _ | refine le_addk ?_ _ | refine le_ext ?_ | refine le_alloc ?_ _ | refine le_setC ?_ _ _ | refine le_drew ?_ | assumption | (refine Nat.le_of_lt ?_; omega) | omega)))
        have BW0 : BoxAt W (w.heap.size) #[.int .i64 n, .slice A ats.length c, .slice B out.length e1] := by rw [hW.out]; refine ⟨?_, fun j => ?_, fun j => ?_⟩ <;> go_simp
        obtain ⟨lW0, bW0, fW0⟩ := BW0
        have cW0_0 : W.cell? ⟨w.heap.size, 0, none⟩ = some (.int .i64 n) := bW0 0
        have cW0_1 : W.cell? ⟨w.heap.size, 1, none⟩ = some (.slice A ats.length c) := bW0 1
        have cW0_2 : W.cell? ⟨w.heap.size, 2, none⟩ = some (.slice B out.length e1) := bW0 2
        clear hW
        have RW : BoxAt W w.heap.size #[.int .i64 n, .slice A ats.length c, .slice B out.length e1] := ⟨lW0, bW0, fW0⟩
        go_wp2_with (first
          | (go_at_call 25; refine (IsValidQuery_w (d := ((n : Int), ats, out)) HQ.out (VD.toExt HV.out (by refine Chg.isExt (F := []) ?_ (refl_ext _) (by simp); repeat (with_reducible (first | exact Chg.refl _ _ | exact Nat.le_refl _ | exact Chg.ofExt (by assumption) | refine Chg.trans0 ?_ (by assumption) | refine Chg.extS ?_ _ | refine Chg.alloc ?_ _ | refine Chg.drew ?_ | refine Chg.setCellE ?_ ?_ _ | refine le_addk ?_ _ | refine le_ext ?_ | refine le_alloc ?_ _ | refine le_setC ?_ _ _ | refine le_drew ?_ | assumption | (refine Nat.le_of_lt ?_; omega) | omega))))).mono ?_; rintro e w1 ⟨rfl, hx1⟩; rw [HT1.out]; obtain ⟨l1, k1, k1', k1'', f1⟩ := box3 (RW.toExt hx1))
          | (go_at_call 26; refine (admissible_any hx (hR.toExt (by refine Chg.isExt (F := []) ?_ (refl_ext _) (by simp); repeat (with_reducible (first | exact Chg.refl _ _ | exact Nat.le_refl _ | exact Chg.ofExt (by assumption) | refine Chg.trans0 ?_ (by assumption) | refine Chg.extS ?_ _ | refine Chg.alloc ?_ _ | refine Chg.drew ?_ | refine Chg.setCellE ?_ ?_ _ | refine le_addk ?_ _ | refine le_ext ?_ | refine le_alloc ?_ _ | refine le_setC ?_ _ _ | refine le_drew ?_ | assumption | (refine Nat.le_of_lt ?_; omega) | omega))))).mono ?_; rintro e w2 ⟨rfl, hx2⟩; rw [HT2.out]))
        go_ret
        exact ⟨by rw [HE.out]; rfl, (by refine Chg.isExt (F := []) ?_ (refl_ext _) (by simp); repeat (with_reducible (first | exact Chg.refl _ _ | exact Nat.le_refl _ | exact Chg.ofExt (by assumption) | refine Chg.trans0 ?_ (by assumption) | refine Chg.extS ?_ _ | refine Chg.alloc ?_ _ | refine Chg.drew ?_ | refine Chg.setCellE ?_ ?_ _ | refine le_addk ?_ _ | refine le_ext ?_ | refine le_alloc ?_ _ | refine le_setC ?_ _ _ | refine le_drew ?_ | assumption | (refine Nat.le_of_lt ?_; omega) | omega)))⟩
      | true =>
        go_enter Tryd.func10, Tryd.ntmps10
        go_upto_region 1 with fail
        refine wp_name ?_
        intro W hW
        have xW : ∃ y, W = ext w y := by rw [hW.out]; exact (by refine Chg.isExt (F := []) ?_ (refl_ext _) (by simp); repeat (with_reducible (first | exact Chg.refl _ _ | exact Nat.le_refl _ | exact Chg.ofExt (by assumption) | refine Chg.trans0 ?_ (by assumption) | refine Chg.extS ?_ _ | refine Chg.alloc ?_ _ | refine Chg.drew ?_ | refine Chg.setCellE ?_ ?_ _ | refine le_addk ?_ _ | refine le_ext ?_ | refine le_alloc ?_ _ | refine le_setC ?_ _ _ | refine le_drew ?_ | assumption | (refine Nat.le_of_lt ?_; omega) | omega)))
        have BW0 : BoxAt W (w.heap.size) #[.int .i64 n, .slice A ats.length c, .slice B out.length e1] := by rw [hW.out]; refine ⟨?_, fun j => ?_, fun j => ?_⟩ <;> go_simp
        obtain ⟨lW0, bW0, fW0⟩ := BW0
        have cW0_0 : W.cell? ⟨w.heap.size, 0, none⟩ = some (.int .i64 n) := bW0 0
        have cW0_1 : W.cell? ⟨w.heap.size, 1, none⟩ = some (.slice A ats.length c) := bW0 1
        have cW0_2 : W.cell? ⟨w.heap.size, 2, none⟩ = some (.slice B out.length e1) := bW0 2
        clear hW
        have RW : BoxAt W w.heap.size #[.int .i64 n, .slice A ats.length c, .slice B out.length e1] := ⟨lW0, bW0, fW0⟩
        have HRW := Lib.hid RW
        clear lW0 bW0 fW0 cW0_0 cW0_1 cW0_2 RW
        obtain ⟨l0, k0, k0', k0'', f0⟩ := box3 HRW.out
        go_wp2_with (first
          | (go_at_call 25; refine (IsValidQuery_w (d := ((n : Int), ats, out)) HQ.out (VD.toExt HV.out (by refine Chg.isExt (F := []) ?_ (refl_ext _) (by simp); repeat (with_reducible (first | exact Chg.refl _ _ | exact Nat.le_refl _ | exact Chg.ofExt (by assumption) | refine Chg.trans0 ?_ (by assumption) | refine Chg.extS ?_ _ | refine Chg.alloc ?_ _ | refine Chg.drew ?_ | refine Chg.setCellE ?_ ?_ _ | refine le_addk ?_ _ | refine le_ext ?_ | refine le_alloc ?_ _ | refine le_setC ?_ _ _ | refine le_drew ?_ | assumption | (refine Nat.le_of_lt ?_; omega) | omega))))).mono ?_; rintro e w1 ⟨rfl, hx1⟩; rw [HT1.out]; obtain ⟨l1, k1, k1', k1'', f1⟩ := box3 (HRW.out.toExt hx1))
          | (go_at_call 26; refine (admissible_any hx (hR.toExt (by refine Chg.isExt (F := []) ?_ (refl_ext _) (by simp); repeat (with_reducible (first | exact Chg.refl _ _ | exact Nat.le_refl _ | exact Chg.ofExt (by assumption) | refine Chg.trans0 ?_ (by assumption) | refine Chg.extS ?_ _ | refine Chg.alloc ?_ _ | refine Chg.drew ?_ | refine Chg.setCellE ?_ ?_ _ | refine le_addk ?_ _ | refine le_ext ?_ | refine le_alloc ?_ _ | refine le_setC ?_ _ _ | refine le_drew ?_ | assumption | (refine Nat.le_of_lt ?_; omega) | omega))))).mono ?_; rintro e w2 ⟨rfl, hx2⟩; rw [HT2.out]))
        have x02 : ∃ y, w2 = ext W y := (by refine Chg.isExt (F := []) ?_ (refl_ext _) (by simp); repeat (with_reducible (first | exact Chg.refl _ _ | exact Nat.le_refl _ | exact Chg.ofExt (by assumption) | refine Chg.trans0 ?_ (by assumption) | refine Chg.extS ?_ _ | refine Chg.alloc ?_ _ | refine Chg.drew ?_ | refine Chg.setCellE ?_ ?_ _ | refine le_addk ?_ _ | refine le_ext ?_ | refine le_alloc ?_ _ | refine le_setC ?_ _ _ | refine le_drew ?_ | assumption | (refine Nat.le_of_lt ?_; omega) | omega)))
        clear l1 k1 k1' k1'' f1 l0 k0 k0' k0'' f0 q1
        have HE2 := Lib.hid (show covB ((n : Int), ats, out) xs = covA ats xs n 0 by rw [HE.out]; simp)
        go_loopw [5] (fun i wr => ∃ k : Nat, i = .int .i64 k ∧ k ≤ n ∧ (∃ y, wr = ext W y) ∧ Hid (covA ats xs (n - k) k = covA ats xs n 0)) (fun i _ => n - (intOf i).toNat)
        case atStart => exact ⟨0, rfl, by omega, x02, Lib.hid rfl⟩
        case round =>
          obtain ⟨k, rfl, hk, hy, Hk⟩ := hrel
          obtain ⟨lr, kr, kr', kr'', fr⟩ := box3 (HRW.out.toExt hy)
          have hyw := trans_ext xW hy
          by_cases hlt : k < n
          · have ek := Hk.out
            rw [covA_step hlt] at ek
            have HK := Lib.hid (show (covOk ats xs k && covA ats xs (n - (k + 1)) (k + 1)) = covA ats xs n 0 from ek)
            clear ek
            go_wp2_with fail
            go_loopw [6, 36] (fun v i vs => ∃ (j : Nat) (acc : List (Int × Int)) (F : List Nat), i = .int .i64 j ∧ j ≤ ats.length ∧ SV 47 2 sR vs v acc F ∧ (∀ b ∈ F, W.heap.size ≤ b) ∧ (∃ y, vs = ext W y) ∧ acc.length ≤ j ∧ Hid (acc ++ selW k (ats.drop j) (xs.drop j) = selW k ats xs)) (fun _ i _ => ats.length - (intOf i).toNat)
            case atStart => exact ⟨0, [], [], rfl, by omega, SV.nil, by simp, hy, by simp, Lib.hid rfl⟩
            case round =>
              clear lr kr kr' kr'' fr
              obtain ⟨j, acc, F, rfl, hj, hS, hF, hy2, hal, Hj⟩ := hrel
              have hyw2 := trans_ext xW hy2
              have HS := Lib.hid hS
              have HF := Lib.hid hF
              clear hF
              by_cases hjl : j < ats.length
              · have hjx : j < xs.length := by omega
                obtain ⟨b, o, A', c', rfl, hbb, hc, hd, hv⟩ := (r1.toExt hyw2).atA hjl
                obtain ⟨bw, ow, rfl, hbw, hcw, hdw⟩ := (hR.toExt hyw2).atR hjx
                have hle := (Hx.out ats[j] (List.getElem_mem hjl)).2
                have ej := Hj.out
                rw [selW_step hjl hjx] at ej
                have hvx := hv.toExt (alloc_ext wr (.cells #[.string ats[j].1, .slice A' ats[j].2.length c'] 45))
                by_cases hin : (k : Int) ∈ ats[j].2
                · rw [if_pos hin] at ej
                  have HIN := Lib.hid (decide_eq_true hin)
                  have HJ := Lib.hid ej
                  obtain ⟨x, hx9⟩ : ∃ x, xs[j] = x := ⟨_, rfl⟩
                  rw [hx9] at hcw hdw
                  have HX9 := Lib.hid hx9
                  obtain ⟨Ac, cc, rfl, _, _⟩ := hS.form
                  clear ej hin hx9 hS
                  go_wp2_with (first
                    | (go_at_call 27; refine (Contains_any (by omega) hvx).mono ?_; rintro e w5 ⟨rfl, hx5⟩; rw [HIN.out]; have hxr5 : ∃ y, w5 = ext wr y := (trans_ext (alloc_ext _ _) hx5); obtain ⟨hcw5, hbw5⟩ := cellE hxr5 hbw hcw; obtain ⟨hdw5, _⟩ := cellE hxr5 hbw hdw)
                    | (at_builtin; refine wpList_app1 (E := sR) (d := x) rfl _ _ _ rfl tR rfl rfl rfl (by simp) (fun _ => ⟨rfl, rfl⟩) rfl (by simp [Value.oneCell']) (HS.out.toExt hxr5) (by omega) (by omega) ?_; intro v' w' F' hS' hC' hF'))
                  exact ⟨⟨j + 1, acc ++ [x], F', by go_num, by omega, hS', newer HF.out (size_of_ext (trans_ext hy2 hxr5)) hF', hC'.isExt (trans_ext hy2 hxr5) HF.out, by simp; omega, Lib.hid (by rw [← HJ.out, HX9.out]; simp)⟩, by simp [intOf]; omega⟩
                · rw [if_neg hin] at ej
                  have HIN := Lib.hid (decide_eq_false hin)
                  have HJ := Lib.hid ej
                  clear ej hin hS
                  go_wp2_with (first
                    | (go_at_call 27; refine (Contains_any (by omega) hvx).mono ?_; rintro e w5 ⟨rfl, hx5⟩; rw [HIN.out]; have hxr5 : ∃ y, w5 = ext wr y := (trans_ext (alloc_ext _ _) hx5)))
                  exact ⟨⟨j + 1, acc, F, by go_num, by omega, HS.out.toExt hxr5, HF.out, trans_ext hy2 hxr5, by omega, Lib.hid HJ.out⟩, by simp [intOf]; omega⟩
              · have ej := Hj.out
                rw [selW_end hjl, List.append_nil] at ej
                obtain ⟨A9, c9, rfl, _, _, r9⟩ := HS.out.view sR_v
                obtain ⟨o9, ho9⟩ : ∃ o, sumR (0, 1) acc = o := ⟨_, rfl⟩
                have HO := Lib.hid ho9
                have HSEL := Lib.hid (show sumR (0, 1) (selW k ats xs) = o9 by rw [← ej]; exact ho9)
                have hacc : acc.length ≤ 1000000000 := by omega
                clear ej ho9 hS
                cases o9 with
                | none =>
                  have HE3 := Lib.hid (show covB ((n : Int), ats, out) xs = false by rw [HE2.out, ← HK.out]; rw [covOk_none HSEL.out]; rfl)
                  go_wp2_with (go_at_call 28; refine (SumRationals_any hacc r9).mono ?_; rintro e w7 ⟨rfl, hx7⟩; rw [HO.out]; obtain ⟨g0, g1, g2⟩ := HG.out.toExt (trans_ext hyw2 hx7))
                  go_ret
                  exact ⟨by rw [HE3.out]; rfl, (by refine Chg.isExt (F := []) ?_ (refl_ext _) (by simp); repeat (with_reducible (first | exact Chg.refl _ _ | exact Nat.le_refl _ | exact Chg.ofExt (by assumption) | refine Chg.trans0 ?_ (by assumption) | refine Chg.extS ?_ _ | refine Chg.alloc ?_ _ | refine Chg.drew ?_ | refine Chg.setCellE ?_ ?_ _ | refine le_addk ?_ _ | refine le_ext ?_ | refine le_alloc ?_ _ | refine le_setC ?_ _ _ | refine le_drew ?_ | assumption | (refine Nat.le_of_lt ?_; omega) | omega)))⟩
                | some s =>
                  obtain ⟨s1, s2⟩ := s
                  by_cases hneg : cmpR (s1, s2) (1, 1) < 0
                  · have HE3 := Lib.hid (show covB ((n : Int), ats, out) xs = false by rw [HE2.out, ← HK.out]; rw [covOk_lt HSEL.out hneg]; rfl)
                    obtain ⟨v, hv⟩ : ∃ v, cmpR (s1, s2) (1, 1) = v := ⟨_, rfl⟩
                    have HV9 := Lib.hid hv
                    rw [hv] at hneg
                    clear hv
                    go_wp2_with (first
                      | (go_at_call 28; refine (SumRationals_any hacc r9).mono ?_; rintro e w7 ⟨rfl, hx7⟩; rw [HO.out]; obtain ⟨g0, g1, g2⟩ := HG.out.toExt (trans_ext hyw2 hx7))
                      | (go_at_call 29; refine CompareRationals_any.mono ?_; rintro e w8 ⟨rfl, hx8⟩; rw [HV9.out]))
                    go_ret
                    exact ⟨by rw [HE3.out]; rfl, (by refine Chg.isExt (F := []) ?_ (refl_ext _) (by simp); repeat (with_reducible (first | exact Chg.refl _ _ | exact Nat.le_refl _ | exact Chg.ofExt (by assumption) | refine Chg.trans0 ?_ (by assumption) | refine Chg.extS ?_ _ | refine Chg.alloc ?_ _ | refine Chg.drew ?_ | refine Chg.setCellE ?_ ?_ _ | refine le_addk ?_ _ | refine le_ext ?_ | refine le_alloc ?_ _ | refine le_setC ?_ _ _ | refine le_drew ?_ | assumption | (refine Nat.le_of_lt ?_; omega) | omega)))⟩
                  · have HK2 := Lib.hid (show covA ats xs (n - (k + 1)) (k + 1) = covA ats xs n 0 by rw [← HK.out, covOk_ge HSEL.out hneg]; rfl)
                    obtain ⟨v, hv⟩ : ∃ v, cmpR (s1, s2) (1, 1) = v := ⟨_, rfl⟩
                    have HV9 := Lib.hid hv
                    rw [hv] at hneg
                    have hneg2 : 0 ≤ v := by omega
                    clear hv
                    go_wp2_with (first
                      | (go_at_call 28; refine (SumRationals_any hacc r9).mono ?_; rintro e w7 ⟨rfl, hx7⟩; rw [HO.out]; obtain ⟨g0, g1, g2⟩ := HG.out.toExt (trans_ext hyw2 hx7))
                      | (go_at_call 29; refine CompareRationals_any.mono ?_; rintro e w8 ⟨rfl, hx8⟩; rw [HV9.out]))
                    exact ⟨⟨k + 1, by go_num, by omega, (by refine Chg.isExt (F := []) ?_ (refl_ext _) (by simp); repeat (with_reducible (first | exact Chg.refl _ _ | exact Nat.le_refl _ | exact Chg.ofExt (by assumption) | refine Chg.trans0 ?_ (by assumption) | refine Chg.extS ?_ _ | refine Chg.alloc ?_ _ | refine Chg.drew ?_ | refine Chg.setCellE ?_ ?_ _ | refine le_addk ?_ _ | refine le_ext ?_ | refine le_alloc ?_ _ | refine le_setC ?_ _ _ | refine le_drew ?_ | assumption | (refine Nat.le_of_lt ?_; omega) | omega))), HK2⟩, by simp [intOf]; omega⟩
          · have ek := Hk.out
            rw [covA_end hlt] at ek
            have HK := Lib.hid ek
            clear ek
            go_wp2
            go_ret
            exact ⟨by rw [HE2.out, ← HK.out]; rfl, hyw⟩
    · have q1 : ((xs.length : Int) != (ats.length : Int)) = true := by rw [bne_iff_ne]; omega
      rw [decide_eq_false hl] at HE
      clear hl
      go_enter Tryd.func10, Tryd.ntmps10
      go_upto_region 1 with fail
      refine wp_name ?_
      intro W hW
      have xW : ∃ y, W = ext w y := by rw [hW.out]; exact (by refine Chg.isExt (F := []) ?_ (refl_ext _) (by simp); repeat (with_reducible (first | exact Chg.refl _ _ | exact Nat.le_refl _ | exact Chg.ofExt (by assumption) | refine Chg.trans0 ?_ (by assumption) | refine Chg.extS ?_ _ | refine Chg.alloc ?_ _ | refine Chg.drew ?_ | refine Chg.setCellE ?_ ?_ _ | refine le_addk ?_ _ | refine le_ext ?_ | refine le_alloc ?_ _ | refine le_setC ?_ _ _ | refine le_drew ?_ | assumption | (refine Nat.le_of_lt ?_; omega) | omega)))
      have BW0 : BoxAt W (w.heap.size) #[.int .i64 n, .slice A ats.length c, .slice B out.length e1] := by rw [hW.out]; refine ⟨?_, fun j => ?_, fun j => ?_⟩ <;> go_simp
      obtain ⟨lW0, bW0, fW0⟩ := BW0
      have cW0_0 : W.cell? ⟨w.heap.size, 0, none⟩ = some (.int .i64 n) := bW0 0
      have cW0_1 : W.cell? ⟨w.heap.size, 1, none⟩ = some (.slice A ats.length c) := bW0 1
      have cW0_2 : W.cell? ⟨w.heap.size, 2, none⟩ = some (.slice B out.length e1) := bW0 2
      clear hW
      have RW : BoxAt W w.heap.size #[.int .i64 n, .slice A ats.length c, .slice B out.length e1] := ⟨lW0, bW0, fW0⟩
      go_wp2_with (go_at_call 25; refine (IsValidQuery_w (d := ((n : Int), ats, out)) HQ.out (VD.toExt HV.out (by refine Chg.isExt (F := []) ?_ (refl_ext _) (by simp); repeat (with_reducible (first | exact Chg.refl _ _ | exact Nat.le_refl _ | exact Chg.ofExt (by assumption) | refine Chg.trans0 ?_ (by assumption) | refine Chg.extS ?_ _ | refine Chg.alloc ?_ _ | refine Chg.drew ?_ | refine Chg.setCellE ?_ ?_ _ | refine le_addk ?_ _ | refine le_ext ?_ | refine le_alloc ?_ _ | refine le_setC ?_ _ _ | refine le_drew ?_ | assumption | (refine Nat.le_of_lt ?_; omega) | omega))))).mono ?_; rintro e w1 ⟨rfl, hx1⟩; rw [HT1.out]; obtain ⟨l1, k1, k1', k1'', f1⟩ := box3 (RW.toExt hx1))
      go_ret
      exact ⟨by rw [HE.out]; simp, (by refine Chg.isExt (F := []) ?_ (refl_ext _) (by simp); repeat (with_reducible (first | exact Chg.refl _ _ | exact Nat.le_refl _ | exact Chg.ofExt (by assumption) | refine Chg.trans0 ?_ (by assumption) | refine Chg.extS ?_ _ | refine Chg.alloc ?_ _ | refine Chg.drew ?_ | refine Chg.setCellE ?_ ?_ _ | refine le_addk ?_ _ | refine le_ext ?_ | refine le_alloc ?_ _ | refine le_setC ?_ _ _ | refine le_drew ?_ | assumption | (refine Nat.le_of_lt ?_; omega) | omega)))⟩
set_option maxRecDepth 100000 in
set_option maxHeartbeats 8000000 in
theorem specIsFractionalCover_any {A B C : Option Addr} {c e1 g : Nat} {d : Qd} {xs : List (Int × Int)} {w : World} (hb : WQ d) (h : vQ w [.int .i64 d.1, .slice A d.2.1.length c, .slice B d.2.2.length e1] d) (hx : xs.length ≤ 1000000000) (hR : RR w C xs) :
    Calls Tryd.prog 7 #[.agg #[.int .i64 d.1, .slice A d.2.1.length c, .slice B d.2.2.length e1], .slice C xs.length g] w fun e w' => e = .returned (.bool (covB d xs)) ∧ ∃ y, w' = ext w y := by
  obtain ⟨r1, r2, hcap⟩ := vQ_get h
  have HV := Lib.hid h
  have HQ := Lib.hid hb
  obtain ⟨hz, b1, b2⟩ := hb
  obtain ⟨z, ats, out⟩ := d
  dsimp only at r1 r2 hcap hz b1 b2 HV ⊢
  have r1 := (vAts_get r1).2
  have m2 : out.length ≤ 1000000000 := by omega
  have b4 := b1.1
  have Hx := Lib.hid b1.2
  clear h b1
  obtain ⟨t1, ht1⟩ : ∃ t, vqB (z, ats, out) = t := ⟨_, rfl⟩
  obtain ⟨t2, ht2⟩ : ∃ t, xs.all admR = t := ⟨_, rfl⟩
  have HT1 := Lib.hid ht1
  have HT2 := Lib.hid ht2
  have HE := Lib.hid (show covB (z, ats, out) xs = (t1 && (t2 && decide (xs.length = ats.length)) && covA ats xs z.toNat 0) by unfold covB; rw [ht1, ht2])
  cases t1 with
  | false =>
    clear ht1 ht2
    go_enter Tryd.func7, Tryd.ntmps7
    go_upto_region 1 with fail
    refine wp_name ?_
    intro W hW
    have xW : ∃ y, W = ext w y := by rw [hW.out]; exact (by refine Chg.isExt (F := []) ?_ (refl_ext _) (by simp); repeat (with_reducible (first | exact Chg.refl _ _ | exact Nat.le_refl _ | exact Chg.ofExt (by assumption) | refine Chg.trans0 ?_ (by assumption) | refine Chg.extS ?_ _ | refine Chg.alloc ?_ _ | refine Chg.drew ?_ | refine Chg.setCellE ?_ ?_ _ | refine le_addk ?_ _ | refine le_ext ?_ | refine le_alloc ?_ _ | refine le_setC ?_ _ _ | refine le_drew ?_ | assumption | (refine Nat.le_of_lt ?_; omega) | omega)))
    have BW0 : BoxAt W (w.heap.size) #[.int .i64 z, .slice A ats.length c, .slice B out.length e1] := by rw [hW.out]; refine ⟨?_, fun j => ?_, fun j => ?_⟩ <;> go_simp
    obtain ⟨lW0, bW0, fW0⟩ := BW0
    have cW0_0 : W.cell? ⟨w.heap.size, 0, none⟩ = some (.int .i64 z) := bW0 0
    have cW0_1 : W.cell? ⟨w.heap.size, 1, none⟩ = some (.slice A ats.length c) := bW0 1
    have cW0_2 : W.cell? ⟨w.heap.size, 2, none⟩ = some (.slice B out.length e1) := bW0 2
    clear hW
    go_wp2_with (go_at_call 17; refine (specIsValidQuery_w (d := (z, ats, out)) HQ.out (VD.toExt HV.out (by refine Chg.isExt (F := []) ?_ (refl_ext _) (by simp); repeat (with_reducible (first | exact Chg.refl _ _ | exact Nat.le_refl _ | exact Chg.ofExt (by assumption) | refine Chg.trans0 ?_ (by assumption) | refine Chg.extS ?_ _ | refine Chg.alloc ?_ _ | refine Chg.drew ?_ | refine Chg.setCellE ?_ ?_ _ | refine le_addk ?_ _ | refine le_ext ?_ | refine le_alloc ?_ _ | refine le_setC ?_ _ _ | refine le_drew ?_ | assumption | (refine Nat.le_of_lt ?_; omega) | omega))))).mono ?_; rintro e w1 ⟨rfl, hx1⟩; rw [HT1.out])
    go_ret
    exact ⟨by rw [HE.out]; rfl, (by refine Chg.isExt (F := []) ?_ (refl_ext _) (by simp); repeat (with_reducible (first | exact Chg.refl _ _ | exact Nat.le_refl _ | exact Chg.ofExt (by assumption) | refine Chg.trans0 ?_ (by assumption) | refine Chg.extS ?_ _ | refine Chg.alloc ?_ _ | refine Chg.drew ?_ | refine Chg.setCellE ?_ ?_ _ | refine le_addk ?_ _ | refine le_ext ?_ | refine le_alloc ?_ _ | refine le_setC ?_ _ _ | refine le_drew ?_ | assumption | (refine Nat.le_of_lt ?_; omega) | omega)))⟩
  | true =>
    have hz5 : 1 ≤ z ∧ z ≤ 5 := by
      unfold vqB at ht1
      simp only [Bool.and_eq_true] at ht1
      exact inB_t ht1.1.1.1.1
    obtain ⟨n, rfl⟩ : ∃ n : Nat, z = n := ⟨z.toNat, by omega⟩
    have hn5 : n ≤ 5 := by omega
    have ha4 : ats.length ≤ 4 := by
      unfold vqB at ht1
      simp only [Bool.and_eq_true] at ht1
      have := inB_t ht1.1.1.1.2
      omega
    clear ht1 ht2 hz5 hz
    by_cases hl : xs.length = ats.length
    · have HL9 := Lib.hid (decide_eq_true hl)
      have hl1 : xs.length ≤ ats.length := by omega
      have hl2 : ats.length ≤ xs.length := by omega
      rw [decide_eq_true hl] at HE
      clear hl
      cases t2 with
      | false =>
        go_enter Tryd.func7, Tryd.ntmps7
        go_upto_region 1 with fail
        refine wp_name ?_
        intro W hW
        have xW : ∃ y, W = ext w y := by rw [hW.out]; exact (by refine Chg.isExt (F := []) ?_ (refl_ext _) (by simp); repeat (with_reducible (first | exact Chg.refl _ _ | exact Nat.le_refl _ | exact Chg.ofExt (by assumption) | refine Chg.trans0 ?_ (by assumption) | refine Chg.extS ?_ _ | refine Chg.alloc ?_ _ | refine Chg.drew ?_ | refine Chg.setCellE ?_ ?_ _ | refine le_addk ?_ _ | refine le_ext ?_ | refine le_alloc ?_ _ | refine le_setC ?_ _ _ | refine le_drew ?_ | assumption | (refine Nat.le_of_lt ?_; omega) | omega)))
        have BW0 : BoxAt W (w.heap.size) #[.int .i64 n, .slice A ats.length c, .slice B out.length e1] := by rw [hW.out]; refine ⟨?_, fun j => ?_, fun j => ?_⟩ <;> go_simp
        obtain ⟨lW0, bW0, fW0⟩ := BW0
        have cW0_0 : W.cell? ⟨w.heap.size, 0, none⟩ = some (.int .i64 n) := bW0 0
        have cW0_1 : W.cell? ⟨w.heap.size, 1, none⟩ = some (.slice A ats.length c) := bW0 1
        have cW0_2 : W.cell? ⟨w.heap.size, 2, none⟩ = some (.slice B out.length e1) := bW0 2
        clear hW
        have RW : BoxAt W w.heap.size #[.int .i64 n, .slice A ats.length c, .slice B out.length e1] := ⟨lW0, bW0, fW0⟩
        go_wp2_with (first
          | (go_at_call 17; refine (specIsValidQuery_w (d := ((n : Int), ats, out)) HQ.out (VD.toExt HV.out (by refine Chg.isExt (F := []) ?_ (refl_ext _) (by simp); repeat (with_reducible (first | exact Chg.refl _ _ | exact Nat.le_refl _ | exact Chg.ofExt (by assumption) | refine Chg.trans0 ?_ (by assumption) | refine Chg.extS ?_ _ | refine Chg.alloc ?_ _ | refine Chg.drew ?_ | refine Chg.setCellE ?_ ?_ _ | refine le_addk ?_ _ | refine le_ext ?_ | refine le_alloc ?_ _ | refine le_setC ?_ _ _ | refine le_drew ?_ | assumption | (refine Nat.le_of_lt ?_; omega) | omega))))).mono ?_; rintro e w1 ⟨rfl, hx1⟩; rw [HT1.out]; obtain ⟨l1, k1, k1', k1'', f1⟩ := box3 (RW.toExt hx1))
          | (go_at_call 18; refine (l12Small_any (n := ats.length) hx (by omega) (hR.toExt (by refine Chg.isExt (F := []) ?_ (refl_ext _) (by simp); repeat (with_reducible (first | exact Chg.refl _ _ | exact Nat.le_refl _ | exact Chg.ofExt (by assumption) | refine Chg.trans0 ?_ (by assumption) | refine Chg.extS ?_ _ | refine Chg.alloc ?_ _ | refine Chg.drew ?_ | refine Chg.setCellE ?_ ?_ _ | refine le_addk ?_ _ | refine le_ext ?_ | refine le_alloc ?_ _ | refine le_setC ?_ _ _ | refine le_drew ?_ | assumption | (refine Nat.le_of_lt ?_; omega) | omega))))).mono ?_; rintro e w2 ⟨rfl, hx2⟩; rw [HT2.out, HL9.out]))
        go_ret
        exact ⟨by rw [HE.out]; rfl, (by refine Chg.isExt (F := []) ?_ (refl_ext _) (by simp); repeat (with_reducible (first | exact Chg.refl _ _ | exact Nat.le_refl _ | exact Chg.ofExt (by assumption) | refine Chg.trans0 ?_ (by assumption) | refine Chg.extS ?_ _ | refine Chg.alloc ?_ _ | refine Chg.drew ?_ | refine Chg.setCellE ?_ ?_ _ | refine le_addk ?_ _ | refine le_ext ?_ | refine le_alloc ?_ _ | refine le_setC ?_ _ _ | refine le_drew ?_ | assumption | (refine Nat.le_of_lt ?_; omega) | omega)))⟩
      | true =>
        go_enter Tryd.func7, Tryd.ntmps7
        go_upto_region 1 with fail
        refine wp_name ?_
        intro W hW
        have xW : ∃ y, W = ext w y := by rw [hW.out]; exact (by refine Chg.isExt (F := []) ?_ (refl_ext _) (by simp); repeat (with_reducible (first | exact Chg.refl _ _ | exact Nat.le_refl _ | exact Chg.ofExt (by assumption) | refine Chg.trans0 ?_ (by assumption) | refine Chg.extS ?_ _ | refine Chg.alloc ?_ _ | refine Chg.drew ?_ | refine Chg.setCellE ?_ ?_ _ | refine le_addk ?_ _ | refine le_ext ?_ | refine le_alloc ?_ _ | refine le_setC ?_ _ _ | refine le_drew ?_ | assumption | (refine Nat.le_of_lt ?_; omega) | omega)))
        have BW0 : BoxAt W (w.heap.size) #[.int .i64 n, .slice A ats.length c, .slice B out.length e1] := by rw [hW.out]; refine ⟨?_, fun j => ?_, fun j => ?_⟩ <;> go_simp
        obtain ⟨lW0, bW0, fW0⟩ := BW0
        have cW0_0 : W.cell? ⟨w.heap.size, 0, none⟩ = some (.int .i64 n) := bW0 0
        have cW0_1 : W.cell? ⟨w.heap.size, 1, none⟩ = some (.slice A ats.length c) := bW0 1
        have cW0_2 : W.cell? ⟨w.heap.size, 2, none⟩ = some (.slice B out.length e1) := bW0 2
        clear hW
        have RW : BoxAt W w.heap.size #[.int .i64 n, .slice A ats.length c, .slice B out.length e1] := ⟨lW0, bW0, fW0⟩
        have HRW := Lib.hid RW
        clear lW0 bW0 fW0 cW0_0 cW0_1 cW0_2 RW
        obtain ⟨l0, k0, k0', k0'', f0⟩ := box3 HRW.out
        go_wp2_with (first
          | (go_at_call 17; refine (specIsValidQuery_w (d := ((n : Int), ats, out)) HQ.out (VD.toExt HV.out (by refine Chg.isExt (F := []) ?_ (refl_ext _) (by simp); repeat (with_reducible (first | exact Chg.refl _ _ | exact Nat.le_refl _ | exact Chg.ofExt (by assumption) | refine Chg.trans0 ?_ (by assumption) | refine Chg.extS ?_ _ | refine Chg.alloc ?_ _ | refine Chg.drew ?_ | refine Chg.setCellE ?_ ?_ _ | refine le_addk ?_ _ | refine le_ext ?_ | refine le_alloc ?_ _ | refine le_setC ?_ _ _ | refine le_drew ?_ | assumption | (refine Nat.le_of_lt ?_; omega) | omega))))).mono ?_; rintro e w1 ⟨rfl, hx1⟩; rw [HT1.out]; obtain ⟨l1, k1, k1', k1'', f1⟩ := box3 (HRW.out.toExt hx1))
          | (go_at_call 18; refine (l12Small_any (n := ats.length) hx (by omega) (hR.toExt (by refine Chg.isExt (F := []) ?_ (refl_ext _) (by simp); repeat (with_reducible (first | exact Chg.refl _ _ | exact Nat.le_refl _ | exact Chg.ofExt (by assumption) | refine Chg.trans0 ?_ (by assumption) | refine Chg.extS ?_ _ | refine Chg.alloc ?_ _ | refine Chg.drew ?_ | refine Chg.setCellE ?_ ?_ _ | refine le_addk ?_ _ | refine le_ext ?_ | refine le_alloc ?_ _ | refine le_setC ?_ _ _ | refine le_drew ?_ | assumption | (refine Nat.le_of_lt ?_; omega) | omega))))).mono ?_; rintro e w2 ⟨rfl, hx2⟩; rw [HT2.out, HL9.out]))
        have x02 : ∃ y, w2 = ext W y := (by refine Chg.isExt (F := []) ?_ (refl_ext _) (by simp); repeat (with_reducible (first | exact Chg.refl _ _ | exact Nat.le_refl _ | exact Chg.ofExt (by assumption) | refine Chg.trans0 ?_ (by assumption) | refine Chg.extS ?_ _ | refine Chg.alloc ?_ _ | refine Chg.drew ?_ | refine Chg.setCellE ?_ ?_ _ | refine le_addk ?_ _ | refine le_ext ?_ | refine le_alloc ?_ _ | refine le_setC ?_ _ _ | refine le_drew ?_ | assumption | (refine Nat.le_of_lt ?_; omega) | omega)))
        clear l1 k1 k1' k1'' f1 l0 k0 k0' k0'' f0
        have HE2 := Lib.hid (show covB ((n : Int), ats, out) xs = covA ats xs n 0 by rw [HE.out]; simp)
        go_loopw [5] (fun i wr => ∃ k : Nat, i = .int .i64 k ∧ k ≤ n ∧ (∃ y, wr = ext W y) ∧ Hid (covA ats xs (n - k) k = covA ats xs n 0)) (fun i _ => n - (intOf i).toNat)
        case atStart => exact ⟨0, rfl, by omega, x02, Lib.hid rfl⟩
        case round =>
          obtain ⟨k, rfl, hk, hy, Hk⟩ := hrel
          obtain ⟨lr, kr, kr', kr'', fr⟩ := box3 (HRW.out.toExt hy)
          have hyw := trans_ext xW hy
          by_cases hlt : k < n
          · have ek := Hk.out
            rw [covA_step hlt] at ek
            have HK := Lib.hid (show (covOk ats xs k && covA ats xs (n - (k + 1)) (k + 1)) = covA ats xs n 0 from ek)
            clear ek
            go_wp2_with fail
            go_loopw [6, 7] (fun v i vs => ∃ (j : Nat) (acc : List (Int × Int)) (F : List Nat), i = .int .i64 j ∧ j ≤ ats.length ∧ SV 47 2 sR vs v acc F ∧ (∀ b ∈ F, W.heap.size ≤ b) ∧ (∃ y, vs = ext W y) ∧ acc.length ≤ j ∧ Hid (acc ++ selW k (ats.drop j) (xs.drop j) = selW k ats xs)) (fun _ i _ => ats.length - (intOf i).toNat)
            case atStart => exact ⟨0, [], [wr.heap.size], rfl, by omega, SV.empty wr, fun b hb => by rw [List.mem_singleton.1 hb]; exact size_of_ext hy, trans_ext hy (alloc_ext _ _), by simp, Lib.hid rfl⟩
            case round =>
              clear lr kr kr' kr'' fr
              obtain ⟨j, acc, F, rfl, hj, hS, hF, hy2, hal, Hj⟩ := hrel
              have hyw2 := trans_ext xW hy2
              obtain ⟨lq, kq, kq', kq'', fq⟩ := box3 (HRW.out.toExt hy2)
              have HS := Lib.hid hS
              have HF := Lib.hid hF
              clear hF
              by_cases hjl : j < ats.length
              · have hjx : j < xs.length := by omega
                obtain ⟨b, o, A', c', rfl, hbb, hc, hd, hv⟩ := (r1.toExt hyw2).atA hjl
                obtain ⟨bw, ow, rfl, hbw, hcw, hdw⟩ := (hR.toExt hyw2).atR hjx
                have hle := (Hx.out ats[j] (List.getElem_mem hjl)).2
                have ej := Hj.out
                rw [selW_step hjl hjx] at ej
                have hvx := hv
                by_cases hin : (k : Int) ∈ ats[j].2
                · rw [if_pos hin] at ej
                  have HIN := Lib.hid (decide_eq_true hin)
                  have HJ := Lib.hid ej
                  obtain ⟨x, hx9⟩ : ∃ x, xs[j] = x := ⟨_, rfl⟩
                  rw [hx9] at hcw hdw
                  have HX9 := Lib.hid hx9
                  obtain ⟨Ac, cc, rfl, _, _⟩ := hS.form
                  clear ej hin hx9 hS
                  go_wp2_with (first
                    | (go_at_call 19; refine (specContains_any (by omega) hvx).mono ?_; rintro e w5 ⟨rfl, hx5⟩; rw [HIN.out]; have hxr5 : ∃ y, w5 = ext wr y := hx5; obtain ⟨hcw5, hbw5⟩ := cellE hxr5 hbw hcw; obtain ⟨hdw5, _⟩ := cellE hxr5 hbw hdw)
                    | (at_builtin; refine wpList_app1 (E := sR) (d := x) rfl _ _ _ rfl tR rfl rfl rfl (by simp) (fun _ => ⟨rfl, rfl⟩) rfl (by simp [Value.oneCell']) (HS.out.toExt hxr5) (by omega) (by omega) ?_; intro v' w' F' hS' hC' hF'))
                  exact ⟨⟨j + 1, acc ++ [x], F', by go_num, by omega, hS', newer HF.out (size_of_ext (trans_ext hy2 hxr5)) hF', hC'.isExt (trans_ext hy2 hxr5) HF.out, by simp; omega, Lib.hid (by rw [← HJ.out, HX9.out]; simp)⟩, by simp [intOf]; omega⟩
                · rw [if_neg hin] at ej
                  have HIN := Lib.hid (decide_eq_false hin)
                  have HJ := Lib.hid ej
                  clear ej hin hS
                  go_wp2_with (first
                    | (go_at_call 19; refine (specContains_any (by omega) hvx).mono ?_; rintro e w5 ⟨rfl, hx5⟩; rw [HIN.out]; have hxr5 : ∃ y, w5 = ext wr y := hx5))
                  exact ⟨⟨j + 1, acc, F, by go_num, by omega, HS.out.toExt hxr5, HF.out, trans_ext hy2 hxr5, by omega, Lib.hid HJ.out⟩, by simp [intOf]; omega⟩
              · have ej := Hj.out
                rw [selW_end hjl, List.append_nil] at ej
                obtain ⟨A9, c9, rfl, _, _, r9⟩ := HS.out.view sR_v
                obtain ⟨o9, ho9⟩ : ∃ o, sumR (0, 1) acc = o := ⟨_, rfl⟩
                have HO := Lib.hid ho9
                have HSEL := Lib.hid (show sumR (0, 1) (selW k ats xs) = o9 by rw [← ej]; exact ho9)
                have hacc : acc.length ≤ 1000000000 := by omega
                clear ej ho9 hS
                cases o9 with
                | none =>
                  have HE3 := Lib.hid (show covB ((n : Int), ats, out) xs = false by rw [HE2.out, ← HK.out]; rw [covOk_none HSEL.out]; rfl)
                  go_wp2_with (go_at_call 20; refine (specSumRationals_any hacc r9).mono ?_; rintro e w7 ⟨rfl, hx7⟩; rw [HO.out])
                  go_ret
                  exact ⟨by rw [HE3.out]; rfl, (by refine Chg.isExt (F := []) ?_ (refl_ext _) (by simp); repeat (with_reducible (first | exact Chg.refl _ _ | exact Nat.le_refl _ | exact Chg.ofExt (by assumption) | refine Chg.trans0 ?_ (by assumption) | refine Chg.extS ?_ _ | refine Chg.alloc ?_ _ | refine Chg.drew ?_ | refine Chg.setCellE ?_ ?_ _ | refine le_addk ?_ _ | refine le_ext ?_ | refine le_alloc ?_ _ | refine le_setC ?_ _ _ | refine le_drew ?_ | assumption | (refine Nat.le_of_lt ?_; omega) | omega)))⟩
                | some s =>
                  obtain ⟨s1, s2⟩ := s
                  by_cases hneg : cmpR (s1, s2) (1, 1) < 0
                  · have HE3 := Lib.hid (show covB ((n : Int), ats, out) xs = false by rw [HE2.out, ← HK.out]; rw [covOk_lt HSEL.out hneg]; rfl)
                    obtain ⟨v, hv⟩ : ∃ v, cmpR (s1, s2) (1, 1) = v := ⟨_, rfl⟩
                    have HV9 := Lib.hid hv
                    rw [hv] at hneg
                    clear hv
                    go_wp2_with (first
                      | (go_at_call 20; refine (specSumRationals_any hacc r9).mono ?_; rintro e w7 ⟨rfl, hx7⟩; rw [HO.out])
                      | (go_at_call 21; refine specCompareRationals_any.mono ?_; rintro e w8 ⟨rfl, hx8⟩; rw [HV9.out]))
                    go_ret
                    exact ⟨by rw [HE3.out]; rfl, (by refine Chg.isExt (F := []) ?_ (refl_ext _) (by simp); repeat (with_reducible (first | exact Chg.refl _ _ | exact Nat.le_refl _ | exact Chg.ofExt (by assumption) | refine Chg.trans0 ?_ (by assumption) | refine Chg.extS ?_ _ | refine Chg.alloc ?_ _ | refine Chg.drew ?_ | refine Chg.setCellE ?_ ?_ _ | refine le_addk ?_ _ | refine le_ext ?_ | refine le_alloc ?_ _ | refine le_setC ?_ _ _ | refine le_drew ?_ | assumption | (refine Nat.le_of_lt ?_; omega) | omega)))⟩
                  · have HK2 := Lib.hid (show covA ats xs (n - (k + 1)) (k + 1) = covA ats xs n 0 by rw [← HK.out, covOk_ge HSEL.out hneg]; rfl)
                    obtain ⟨v, hv⟩ : ∃ v, cmpR (s1, s2) (1, 1) = v := ⟨_, rfl⟩
                    have HV9 := Lib.hid hv
                    rw [hv] at hneg
                    have hneg2 : 0 ≤ v := by omega
                    clear hv
                    go_wp2_with (first
                      | (go_at_call 20; refine (specSumRationals_any hacc r9).mono ?_; rintro e w7 ⟨rfl, hx7⟩; rw [HO.out])
                      | (go_at_call 21; refine specCompareRationals_any.mono ?_; rintro e w8 ⟨rfl, hx8⟩; rw [HV9.out]))
                    exact ⟨⟨k + 1, by go_num, by omega, (by refine Chg.isExt (F := []) ?_ (refl_ext _) (by simp); repeat (with_reducible (first | exact Chg.refl _ _ | exact Nat.le_refl _ | exact Chg.ofExt (by assumption) | refine Chg.trans0 ?_ (by assumption) | refine Chg.extS ?_ _ | refine Chg.alloc ?_ _ | refine Chg.drew ?_ | refine Chg.setCellE ?_ ?_ _ | refine le_addk ?_ _ | refine le_ext ?_ | refine le_alloc ?_ _ | refine le_setC ?_ _ _ | refine le_drew ?_ | assumption | (refine Nat.le_of_lt ?_; omega) | omega))), HK2⟩, by simp [intOf]; omega⟩
          · have ek := Hk.out
            rw [covA_end hlt] at ek
            have HK := Lib.hid ek
            clear ek
            go_wp2
            go_ret
            exact ⟨by rw [HE2.out, ← HK.out]; rfl, hyw⟩
    · have HL9 := Lib.hid (decide_eq_false hl)
      rw [decide_eq_false hl] at HE
      clear hl
      go_enter Tryd.func7, Tryd.ntmps7
      go_upto_region 1 with fail
      refine wp_name ?_
      intro W hW
      have xW : ∃ y, W = ext w y := by rw [hW.out]; exact (by refine Chg.isExt (F := []) ?_ (refl_ext _) (by simp); repeat (with_reducible (first | exact Chg.refl _ _ | exact Nat.le_refl _ | exact Chg.ofExt (by assumption) | refine Chg.trans0 ?_ (by assumption) | refine Chg.extS ?_ _ | refine Chg.alloc ?_ _ | refine Chg.drew ?_ | refine Chg.setCellE ?_ ?_ _ | refine le_addk ?_ _ | refine le_ext ?_ | refine le_alloc ?_ _ | refine le_setC ?_ _ _ | refine le_drew ?_ | assumption | (refine Nat.le_of_lt ?_; omega) | omega)))
      have BW0 : BoxAt W (w.heap.size) #[.int .i64 n, .slice A ats.length c, .slice B out.length e1] := by rw [hW.out]; refine ⟨?_, fun j => ?_, fun j => ?_⟩ <;> go_simp
      obtain ⟨lW0, bW0, fW0⟩ := BW0
      have cW0_0 : W.cell? ⟨w.heap.size, 0, none⟩ = some (.int .i64 n) := bW0 0
      have cW0_1 : W.cell? ⟨w.heap.size, 1, none⟩ = some (.slice A ats.length c) := bW0 1
      have cW0_2 : W.cell? ⟨w.heap.size, 2, none⟩ = some (.slice B out.length e1) := bW0 2
      clear hW
      have RW : BoxAt W w.heap.size #[.int .i64 n, .slice A ats.length c, .slice B out.length e1] := ⟨lW0, bW0, fW0⟩
      go_wp2_with (first
        | (go_at_call 17; refine (specIsValidQuery_w (d := ((n : Int), ats, out)) HQ.out (VD.toExt HV.out (by refine Chg.isExt (F := []) ?_ (refl_ext _) (by simp); repeat (with_reducible (first | exact Chg.refl _ _ | exact Nat.le_refl _ | exact Chg.ofExt (by assumption) | refine Chg.trans0 ?_ (by assumption) | refine Chg.extS ?_ _ | refine Chg.alloc ?_ _ | refine Chg.drew ?_ | refine Chg.setCellE ?_ ?_ _ | refine le_addk ?_ _ | refine le_ext ?_ | refine le_alloc ?_ _ | refine le_setC ?_ _ _ | refine le_drew ?_ | assumption | (refine Nat.le_of_lt ?_; omega) | omega))))).mono ?_; rintro e w1 ⟨rfl, hx1⟩; rw [HT1.out]; obtain ⟨l1, k1, k1', k1'', f1⟩ := box3 (RW.toExt hx1))
        | (go_at_call 18; refine (l12Small_any (n := ats.length) hx (by omega) (hR.toExt (by refine Chg.isExt (F := []) ?_ (refl_ext _) (by simp); repeat (with_reducible (first | exact Chg.refl _ _ | exact Nat.le_refl _ | exact Chg.ofExt (by assumption) | refine Chg.trans0 ?_ (by assumption) | refine Chg.extS ?_ _ | refine Chg.alloc ?_ _ | refine Chg.drew ?_ | refine Chg.setCellE ?_ ?_ _ | refine le_addk ?_ _ | refine le_ext ?_ | refine le_alloc ?_ _ | refine le_setC ?_ _ _ | refine le_drew ?_ | assumption | (refine Nat.le_of_lt ?_; omega) | omega))))).mono ?_; rintro e w2 ⟨rfl, hx2⟩; rw [HT2.out, HL9.out, Bool.and_false]))
      go_ret
      exact ⟨by rw [HE.out]; simp, (by refine Chg.isExt (F := []) ?_ (refl_ext _) (by simp); repeat (with_reducible (first | exact Chg.refl _ _ | exact Nat.le_refl _ | exact Chg.ofExt (by assumption) | refine Chg.trans0 ?_ (by assumption) | refine Chg.extS ?_ _ | refine Chg.alloc ?_ _ | refine Chg.drew ?_ | refine Chg.setCellE ?_ ?_ _ | refine le_addk ?_ _ | refine le_ext ?_ | refine le_alloc ?_ _ | refine le_setC ?_ _ _ | refine le_drew ?_ | assumption | (refine Nat.le_of_lt ?_; omega) | omega)))⟩
end Go.Proofs.YtgehnacmgofobaaDoor
