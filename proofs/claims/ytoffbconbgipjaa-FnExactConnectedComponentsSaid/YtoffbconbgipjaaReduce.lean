/- Atoms removed one by one: the program's way. -/
import Derived.Test.YtoffbconbgipjaaSEar
import Derived.Test.YtoffbconbgipjaaApp
namespace Go.Proofs.Ytoffbconbgipjaa
open Go.RowKit

def lenV (v : Value) : Nat := match v with | .slice _ n _ => n | _ => 0
def bitV (v : Value) : Nat := match v with | .bool true => 1 | _ => 0
theorem rep_set {α : Type} {a z : α} {k n : Nat} (h : k < n) : (List.replicate k a ++ List.replicate (n - k) z).set k a = List.replicate (k + 1) a ++ List.replicate (n - (k + 1)) z := by
  rw [List.set_append_right _ _ (by simp), List.length_replicate, Nat.sub_self, show n - k = (n - (k + 1)) + 1 by omega, List.replicate_succ, List.set_cons_zero, List.replicate_succ', List.append_assoc]
  rfl
def RedP (ats : List At) (w : World) (e : Ending) (w' : World) : Prop := ∃ v1 v2 F1 F2, e = .returned (.tuple #[v1, v2]) ∧ (∃ y, w' = ext w y) ∧ SV 3 1 sI w' v1 (gyoQ ats).1 F1 ∧ SV 3 1 sI w' v2 (gyoQ ats).2 F2 ∧ (∀ b ∈ F1, w.heap.size ≤ b) ∧ ∀ b ∈ F2, w.heap.size ≤ b
set_option maxRecDepth 100000 in
set_option maxHeartbeats 16000000 in
theorem reduce_any {z : Int} {ats : List At} {A B : Option Addr} {c e1 m : Nat} {w : World} (hx : ats.length ≤ 1000) (hxl : ∀ x ∈ ats, x.2.length ≤ 100000000) (hA : RV 2 vAt w A ats) :
    Calls Try.prog 76 #[.agg #[.int .i64 z, .slice A ats.length c, .slice B m e1]] w (RedP ats w) := by
  have Hxl := Lib.hid hxl
  clear hxl
  go_enter Try.func76, Try.ntmps76
  go_upto_region 2 with fail
  refine wp_name ?_
  intro W hW
  have xW : ∃ y, W = ext w y := by rw [hW.out]; exact (by refine Chg.isExt (F := []) ?_ (refl_ext _) (by simp); repeat (with_reducible (first | exact Chg.refl _ _ | exact Nat.le_refl _ | exact Chg.ofExt (by assumption) | refine Chg.trans0 ?_ (by assumption) | refine Chg.extS ?_ _ | refine Chg.alloc ?_ _ | refine Chg.drew ?_ | refine Chg.setCellE ?_ ?_ _ | refine le_addk ?_ _ | refine le_ext ?_ | refine le_alloc ?_ _ | refine le_setC ?_ _ _ | refine le_drew ?_ | assumption | (refine Nat.le_of_lt ?_; omega) | omega)))
  have BW0 : BoxAt W (w.heap.size) #[.int .i64 z, .slice A ats.length c, .slice B m e1] := by rw [hW.out]; refine ⟨?_, fun j => ?_, fun j => ?_⟩ <;> go_simp
  obtain ⟨lW0, bW0, fW0⟩ := BW0
  have cW0_0 : W.cell? ⟨w.heap.size, 0, none⟩ = some (.int .i64 z) := bW0 0
  have cW0_1 : W.cell? ⟨w.heap.size, 1, none⟩ = some (.slice A ats.length c) := bW0 1
  have cW0_2 : W.cell? ⟨w.heap.size, 2, none⟩ = some (.slice B m e1) := bW0 2
  have BW1 : BoxAt W (w.heap.size + 1) #[.int .i64 ats.length] := by rw [hW.out]; refine ⟨?_, fun j => ?_, fun j => ?_⟩ <;> go_simp
  obtain ⟨lW1, bW1, fW1⟩ := BW1
  have cW1_0 : W.cell? ⟨w.heap.size + 1, 0, none⟩ = some (.int .i64 ats.length) := bW1 0
  clear hW
  have BQ : BoxAt W w.heap.size #[.int .i64 z, .slice A ats.length c, .slice B m e1] := ⟨lW0, bW0, fW0⟩
  have BN : BoxAt W (w.heap.size + 1) #[.int .i64 ats.length] := ⟨lW1, bW1, fW1⟩
  go_upto_region 4 with (first
    | (at_make; refine wpList_makeS (E := sI) (d := 0) (n := ats.length) _ rfl _ _ _ rfl tI rfl rfl (fun _ => ⟨rfl, rfl⟩) (by omega) (by omega) ?_; intro w1 hSp hx1 hg1; have BN1 := BN.toExt hx1; obtain ⟨ln1, an1, fn1⟩ := box1 BN1)
    | (at_make; refine wpList_makeS (E := sB) (d := false) (n := ats.length) _ rfl _ _ _ rfl tB rfl rfl (fun _ => ⟨rfl, rfl⟩) (by omega) (by omega) ?_; intro w2 hSg hx2 hg2))
  refine wp_name ?_
  intro w3 hw3
  have hx3 : ∃ y, w3 = ext w2 y := by rw [hw3.out]; exact alloc_ext _ _
  have BG : BoxAt w3 w2.heap.size #[.slice (some ⟨w1.heap.size, 0, none⟩) ats.length ats.length] := by rw [hw3.out]; exact BoxAt.new _ _ _
  have BN : BoxAt w3 (w.heap.size + 1) #[.int .i64 ats.length] := BN.toExt (trans_ext hx1 (trans_ext hx2 hx3))
  have BQ : BoxAt w3 w.heap.size #[.int .i64 z, .slice A ats.length c, .slice B m e1] := BQ.toExt (trans_ext hx1 (trans_ext hx2 hx3))
  have hxw3 : ∃ y, w3 = ext w y := trans_ext xW (trans_ext hx1 (trans_ext hx2 hx3))
  have hA3 := hA.toExt hxw3
  have hSp := hSp.toExt (trans_ext hx2 hx3)
  have hSg := hSg.toExt hx3
  have g1 : w.heap.size + 1 < W.heap.size := lW1
  have g3 := BG.1
  obtain ⟨gp, egp⟩ : ∃ g, W.heap.size = g := ⟨_, rfl⟩
  obtain ⟨gg, egg⟩ : ∃ g, w1.heap.size = g := ⟨_, rfl⟩
  obtain ⟨bg, ebg⟩ : ∃ g, w2.heap.size = g := ⟨_, rfl⟩
  obtain ⟨bn, ebn⟩ : ∃ g, w.heap.size + 1 = g := ⟨_, rfl⟩
  rw [egp] at hSp hg1 g1 ⊢
  rw [egg] at hSg hg1 hg2 BG ⊢
  rw [ebg] at hg2 BG g3 ⊢
  rw [ebn] at BN g1 ⊢
  have g0 : w.heap.size < bn := by omega
  have n1 : gp ≠ gg := by omega
  have n2 : gg ≠ gp := by omega
  have n3 : gp ≠ bg := by omega
  have n4 : bg ≠ gp := by omega
  have n5 : gg ≠ bg := by omega
  have n6 : bg ≠ gg := by omega
  have HX3 := Lib.hid hxw3
  clear egp egg ebg ebn lW0 bW0 fW0 cW0_0 cW0_1 cW0_2 lW1 bW1 fW1 cW1_0 xW hx1 hx2 hx3 BN1 ln1 an1 fn1 hw3 hxw3
  go_wp2
  go_loopw [22] (fun i wr => ∃ k : Nat, i = .int .i64 k ∧ k ≤ ats.length ∧ SV 3 1 sI wr (.slice (some ⟨gp, 0, none⟩) ats.length ats.length) (List.replicate k (-1) ++ List.replicate (ats.length - k) 0) [gp] ∧ Chg [gp] w3 wr) (fun i _ => ats.length - (intOf i).toNat)
  case atStart => exact ⟨0, rfl, by omega, by simpa using hSp, Chg.refl _ _⟩
  case round =>
    obtain ⟨k, rfl, hk, hSk, hC⟩ := hrel
    by_cases hlt : k < ats.length
    · have hlen : (List.replicate k (-1 : Int) ++ List.replicate (ats.length - k) 0).length = ats.length := by simp; omega
      have HS := Lib.hid hSk
      have HC := Lib.hid hC
      obtain ⟨⟨u, hu⟩, hf, hg⟩ := hSk.cell hlen (j := k) (by omega)
      obtain ⟨h3, h4⟩ := hSk.set1 hlen (k := k) (by omega) (u := .int .i64 (-1)) (d := -1) (fun _ => ⟨rfl, rfl⟩)
      rw [rep_set hlt] at h3
      have H3 := Lib.hid h3
      have H4 := Lib.hid h4
      clear hSk hC h3 h4 hlen
      go_wp2
      exact ⟨⟨k + 1, by go_num, by omega, H3.out, HC.out.trans H4.out (fun x hx => .inl hx)⟩, by simp [intOf]; omega⟩
    · have e : k = ats.length := by omega
      rw [show List.replicate k (-1 : Int) ++ List.replicate (ats.length - k) 0 = List.replicate ats.length (-1) by rw [e]; simp] at hSk
      have hsz := hC.size
      have hgg : ∀ b ∈ [gg], b ∉ [gp] := fun b hb h => by simp at hb h; omega
      have hSg4 := hSg.chg hC hgg
      clear e
      go_wp2
      go_loopw [9, 10] (fun v t xr => ∃ (rem par : List Int) (gone : List Bool) (F : List Nat) (tf : Bool), t = .bool tf ∧ SV 3 1 sI xr v rem F ∧ (∀ b ∈ F, w3.heap.size ≤ b) ∧ SV 3 1 sI xr (.slice (some ⟨gp, 0, none⟩) ats.length ats.length) par [gp] ∧ SV 4 1 sB xr (.slice (some ⟨gg, 0, none⟩) ats.length ats.length) gone [gg] ∧ Chg [gp, gg] w3 xr ∧ rem.length + leftN gone = ats.length ∧ Hid (gone.length = ats.length ∧ par.length = ats.length) ∧ Hid (gyo ats (leftN gone) rem par gone = gyoQ ats) ∧ Hid (tf = false → stepG ats gone = none)) (fun v t _ => ats.length - lenV v + bitV t)
      case atStart => exact ⟨[], List.replicate ats.length (-1), List.replicate ats.length false, [], true, rfl, SV.nil, by simp, hSk, hSg4, hC.mono (fun x hx => .inl (by simp at hx; simp [hx])), by rw [leftN_rep]; simp, Lib.hid ⟨by simp, by simp⟩, Lib.hid (by rw [leftN_rep]; rfl), Lib.hid (by simp)⟩
      case round =>
        clear hSk hC hSg4 hSp hSg hsz hlt hgg hk
        obtain ⟨rem0, par0, gone0, F0, tf0, rfl, hSr, hF, hSp, hSg, hC, hln, Hl, Hg, Hs⟩ := hrel
        have HF0 := Lib.hid hF
        obtain ⟨A0, c0, rfl, hc0, _⟩ := hSr.form
        clear hF
        cases tf0 with
        | false =>
          have HK := Lib.hid (show gyoQ ats = (rem0, par0) by rw [← Hg.out]; exact gyo_none (Hs.out rfl) _)
          go_wp2
          go_ret2
          show RedP ats w _ _
          refine ⟨_, _, F0, [gp], rfl, hC.isExt HX3.out (fun x hx => ?_), by rw [HK.out]; exact hSr, by rw [HK.out]; exact hSp, fun b hb => ?_, fun b hb => ?_⟩
          · simp at hx; omega
          · have := HF0.out b hb; omega
          · simp at hb; omega
        | true =>
          go_wp2
          go_loopw [9, 10, 11] (fun v t i xs => ∃ (q : Nat) (rem par : List Int) (gone : List Bool) (F : List Nat) (tf : Bool), i = .int .i64 q ∧ q ≤ ats.length ∧ t = .bool tf ∧ SV 3 1 sI xs v rem F ∧ (∀ b ∈ F, w3.heap.size ≤ b) ∧ SV 3 1 sI xs (.slice (some ⟨gp, 0, none⟩) ats.length ats.length) par [gp] ∧ SV 4 1 sB xs (.slice (some ⟨gg, 0, none⟩) ats.length ats.length) gone [gg] ∧ Chg [gp, gg] w3 xs ∧ rem.length + leftN gone = ats.length ∧ Hid (gone.length = ats.length ∧ par.length = ats.length) ∧ Hid (gyo ats (leftN gone) rem par gone = gyoQ ats) ∧ Hid (tf = false → findF (canI ats gone) (ats.length - q) q = stepG ats gone) ∧ rem0.length + (if tf = true then 1 else 0) ≤ rem.length) (fun _ _ i _ => ats.length - (intOf i).toNat)
          case atStart => exact ⟨0, rem0, par0, gone0, F0, false, rfl, by omega, rfl, hSr, HF0.out, hSp, hSg, hC, hln, Hl, Hg, Lib.hid (fun _ => rfl), by simp⟩
          case round =>
            clear hSr hSp hSg hC hln Hl Hg Hs HF0
            obtain ⟨q, rem, par, gone, F, tf, rfl, hq, rfl, hSr, hF, hSp, hSg, hC, hln, Hl, Hg, Hs, hrm⟩ := hrel
            have HF := Lib.hid hF
            have HR := Lib.hid hSr
            have HP := Lib.hid hSp
            have HGo := Lib.hid hSg
            have HC := Lib.hid hC
            obtain ⟨A1, c1, rfl, hc1, _⟩ := hSr.form
            have m1 : w.heap.size ∉ [gp, gg] := fun h => by simp at h; omega
            have m2 : bn ∉ [gp, gg] := fun h => by simp at h; omega
            have m3 : bg ∉ [gp, gg] := fun h => by simp at h; omega
            have BQr := BQ.chg hC m1
            have BNr := BN.chg hC m2
            have BGr := BG.chg hC m3
            obtain ⟨ln, an, fn⟩ := box1 BNr
            obtain ⟨lg, ag, fg⟩ := box1 BGr
            have hl9 : rem.length ≤ 1000 := by omega
            clear hF hSr hSp hSg hC m1 m2 m3
            cases tf with
            | true =>
              simp only [if_true] at hrm
              go_wp2
              all_goals exact ⟨⟨rem, par, gone, F, true, rfl, HR.out, HF.out, HP.out, HGo.out, HC.out, hln, Hl, Hg, Lib.hid (by simp)⟩, by simp [lenV, bitV]; omega⟩
            | false =>
              simp only [Bool.false_eq_true, if_false, Nat.add_zero] at hrm
              by_cases hql : q < ats.length
              · have hxs : ∃ y, wr = ext w y := HC.out.isExt HX3.out (fun x hx => by simp at hx; omega)
                obtain ⟨gl, gc⟩ := (HGo.out.toView sB_v).at0 (k := q) (by rw [Hl.out.1]; exact hql)
                obtain ⟨t, ht⟩ : ∃ t, gone.getD q true = t := ⟨_, rfl⟩
                rw [ht] at gc
                have e := Hs.out rfl
                rw [findF_step hql, show canI ats gone q = (!t && (ear ats gone q).isSome) by unfold canI; rw [ht]] at e
                have He := Lib.hid e
                have HT := Lib.hid ht
                clear e ht Hs
                cases t with
                | true =>
                  go_wp2
                  exact ⟨⟨q + 1, rem, par, gone, F, false, by go_num, by omega, rfl, HR.out, HF.out, HP.out, HGo.out, HC.out, hln, Hl, Hg, Lib.hid (fun _ => by simpa using He.out), by simpa using hrm⟩, by simp [intOf]; omega⟩
                | false =>
                  obtain ⟨r, hr⟩ : ∃ r, ear ats gone q = r := ⟨_, rfl⟩
                  have ER := Lib.hid hr
                  clear hr
                  cases r with
                  | none =>
                    have EI := Lib.hid (show oInt? (ear ats gone q) = -1 by rw [ER.out]; rfl)
                    have HK := Lib.hid (show findF (canI ats gone) (ats.length - (q + 1)) (q + 1) = stepG ats gone by have := He.out; rw [ER.out] at this; simpa using this)
                    go_wp2_with (go_at_call 88; refine (ear_any hx Hxl.out hql Hl.out.1 BNr BGr BQr (hA.toExt hxs) (HGo.out.toView sB_v)).mono ?_; rintro e w4 ⟨rfl, hx4⟩; rw [EI.out])
                    exact ⟨⟨q + 1, rem, par, gone, F, false, by go_num, by omega, rfl, HR.out.toExt hx4, HF.out, HP.out.toExt hx4, HGo.out.toExt hx4, HC.out.trans0 hx4, hln, Hl, Hg, Lib.hid (fun _ => HK.out), by simpa using hrm⟩, by simp [intOf]; omega⟩
                  | some k =>
                    have EI := Lib.hid (show oInt? (ear ats gone q) = (k : Int) by rw [ER.out]; rfl)
                    have HS := Lib.hid (show stepG ats gone = some q by have := He.out; rw [ER.out] at this; simpa using this.symm)
                    have HGY := Lib.hid ((gyo_some (rem := rem) (par := par) HS.out ER.out).symm.trans Hg.out)
                    have HLN := Lib.hid (leftN_set HT.out)
                    have k0 : (0 : Int) ≤ (k : Int) := by omega
                    have g9 : gp < w3.heap.size := by omega
                    have g8 : gg < w3.heap.size := by omega
                    have hz := HC.out.size
                    go_wp2_with (first
                      | (go_at_call 88; refine (ear_any hx Hxl.out hql Hl.out.1 BNr BGr BQr (hA.toExt hxs) (HGo.out.toView sB_v)).mono ?_; rintro e w4 ⟨rfl, hx4⟩; rw [EI.out]; obtain ⟨⟨up, hup⟩, hfp, hgp⟩ := (HP.out.toExt hx4).cell Hl.out.2 (j := q) (by omega); obtain ⟨⟨ug, hug⟩, hfg, hgg4⟩ := (HGo.out.toExt hx4).cell Hl.out.1 (j := q) (by omega); obtain ⟨lg4, ag4, fg4⟩ := box1 (BGr.toExt hx4))
                      | (at_builtin; refine wpList_app1 (E := sI) (d := (q : Int)) rfl _ _ _ rfl tI rfl rfl rfl (by simp) (fun _ => ⟨rfl, rfl⟩) rfl (by simp [Value.oneCell']) (((HR.out.toExt hx4).setC HF.out g9 _).setC HF.out g8 _) (by omega) (by omega) ?_; intro v6 w6 F6 hS6 hC6 hF6))
                    have hz4 := size_of_ext hx4
                    obtain ⟨p1, p2⟩ := (HP.out.toExt hx4).set1 Hl.out.2 (k := q) hql (u := .int .i64 k) (d := (k : Int)) (fun _ => ⟨rfl, rfl⟩)
                    have s1 := (HGo.out.toExt hx4).chg p2 (fun b hb h => by simp at hb h; omega)
                    obtain ⟨s2, s3⟩ := s1.set1 Hl.out.1 (k := q) hql (u := .bool true) (d := true) (fun _ => ⟨rfl, rfl⟩)
                    have p3 := (p1.chg s3 (fun b hb h => by simp at hb h; omega)).chg hC6 (fun b hb h => by have := HF.out b h; simp at hb; omega)
                    have s4 := s2.chg hC6 (fun b hb h => by have := HF.out b h; simp at hb; omega)
                    have hln2 := HLN.out
                    exact ⟨⟨q + 1, rem ++ [(q : Int)], par.set q (k : Int), gone.set q true, F6, true, by go_num, by omega, rfl, hS6, newer HF.out (by simp only [World.size_setCell]; omega) hF6, p3, s4, (((HC.out.trans0 hx4).trans p2 (fun x hx => .inl (by simp at hx; simp [hx]))).trans s3 (fun x hx => .inl (by simp at hx; simp [hx]))).trans hC6 (fun x hx => .inr (HF.out x hx)), by simp; omega, Lib.hid ⟨by rw [List.length_set]; exact Hl.out.1, by rw [List.length_set]; exact Hl.out.2⟩, HGY, Lib.hid (by simp), by simp; omega⟩, by simp [intOf]; omega⟩
              · have e := Hs.out rfl
                rw [findF_end hql] at e
                have HK := Lib.hid e.symm
                clear e Hs
                go_wp2
                exact ⟨⟨rem, par, gone, F, false, rfl, HR.out, HF.out, HP.out, HGo.out, HC.out, hln, Hl, Hg, Lib.hid (fun _ => HK.out)⟩, by simp [lenV, bitV]; omega⟩
end Go.Proofs.Ytoffbconbgipjaa
