/- Contracts of functions that the statement reaches. -/
import Derived.Test.YtfigcfajkilhiaaJ32
import Derived.Test.YtfigcfajkilhiaaJ01
import Derived.Test.YtfigcfajkilhiaaJ18
namespace Go.Proofs.Ytfigcfajkilhiaa
open Go.RowKit
def lenV (v : Value) : Nat := match v with | .slice _ n _ => n | _ => 0
theorem rep_set {α : Type} {a z : α} {k n : Nat} (h : k < n) : (List.replicate k a ++ List.replicate (n - k) z).set k a = List.replicate (k + 1) a ++ List.replicate (n - (k + 1)) z := by
  rw [List.set_append_right _ _ (by simp), List.length_replicate, Nat.sub_self, show n - k = (n - (k + 1)) + 1 by omega, List.replicate_succ, List.set_cons_zero, List.replicate_succ', List.append_assoc]
  rfl
def RedP (ats : List At) (w : World) (e : Ending) (w' : World) : Prop := ∃ v1 v2 F1 F2, e = .returned (.tuple #[v1, v2]) ∧ (∃ y, w' = ext w y) ∧ SV 3 1 sI w' v1 (gyoQ ats).1 F1 ∧ SV 3 1 sI w' v2 (gyoQ ats).2 F2 ∧ (∀ b ∈ F1, w.heap.size ≤ b) ∧ ∀ b ∈ F2, w.heap.size ≤ b
end Go.Proofs.Ytfigcfajkilhiaa
namespace Go.Proofs.Ytfigcfajkilhiaa
open Go.RowKit
theorem notL_set {gone : List Bool} {i : Nat} : (notL gone).set i false = notL (gone.set i true) := by
  unfold notL
  rw [List.map_set]
  rfl
theorem notL_rep (n : Nat) : notL (List.replicate n false) = List.replicate n true := by simp [notL]
set_option maxRecDepth 100000 in
set_option maxHeartbeats 16000000 in
theorem l10Run_any {m : Nat} {ats : List At} {A B : Option Addr} {c e1 n2 : Nat} {w : World} (hx : ats.length ≤ 1000) (hxl : ∀ x ∈ ats, x.2.length ≤ 100000000) (hm : m ≤ 1000) (hv : ∀ x ∈ ats, ∀ v ∈ x.2, 0 ≤ v ∧ v < (m : Int)) (hA : RV 2 vAt w A ats) :
    Calls Try.prog 196 #[.agg #[.int .i64 m, .slice A ats.length c, .slice B n2 e1]] w (RedP ats w) := by
  have Hxl := Lib.hid hxl
  have Hv := Lib.hid hv
  clear hxl hv
  go_enter Try.func196, Try.ntmps196
  go_upto_region 1 with fail
  refine wp_name ?_
  intro W hW
  have xW : ∃ y, W = ext w y := by rw [hW.out]; exact (by refine x'z ?_; repeat (with_reducible (first | exact x'a _ _ | exact x'b _ | exact x'c (by assumption) | refine x'd ?_ (by assumption) | refine x'e ?_ _ | refine x'f ?_ _ | refine x'g ?_ | refine x'h ?_ ?_ _ | refine x'i ?_ _ | refine x'j ?_ | refine x'k ?_ _ | refine x'l ?_ _ _ | refine x'm ?_ | assumption | (refine x'n ?_; omega) | omega)))
  have BW0 : BoxAt W (w.heap.size) #[.int .i64 m, .slice A ats.length c, .slice B n2 e1] := by rw [hW.out]; refine ⟨?_, fun j => ?_, fun j => ?_⟩ <;> go_simp
  obtain ⟨lW0, bW0, fW0⟩ := BW0
  have cW0_0 : W.cell? ⟨w.heap.size, 0, none⟩ = some (.int .i64 m) := bW0 0
  have cW0_1 : W.cell? ⟨w.heap.size, 1, none⟩ = some (.slice A ats.length c) := bW0 1
  have cW0_2 : W.cell? ⟨w.heap.size, 2, none⟩ = some (.slice B n2 e1) := bW0 2
  clear hW
  have BQ : BoxAt W w.heap.size #[.int .i64 m, .slice A ats.length c, .slice B n2 e1] := ⟨lW0, bW0, fW0⟩
  have hSo := SV.empty (α := Int) (te := 3) (size := 1) (E := sI) W
  go_upto_region 4 with (first
    | (at_make; refine wpList_makeS (E := sI) (d := 0) (n := ats.length) _ rfl _ _ _ rfl tI rfl rfl (fun _ => ⟨rfl, rfl⟩) (by omega) (by omega) ?_; intro w1 hSu hx1 hg1; have BQ1 : BoxAt w1 w.heap.size #[.int .i64 m, .slice A ats.length c, .slice B n2 e1] := BQ.toExt (trans_ext (alloc_ext _ _) hx1); obtain ⟨l1, a1, a1', a1'', f1⟩ := box3 BQ1)
    | (at_make; refine wpList_makeS (E := sB) (d := false) (n := ats.length) _ rfl _ _ _ rfl tB rfl rfl (fun _ => ⟨rfl, rfl⟩) (by omega) (by omega) ?_; intro w2 hSl hx2 hg2))
  have hx1' := hx1
  simp only [World.size_alloc] at hg1
  have hxW1 : ∃ y, w1 = ext W y := trans_ext (alloc_ext _ _) hx1
  have hSo := hSo.toExt (trans_ext hx1 hx2)
  have hSu := hSu.toExt hx2
  have BQ := BQ1.toExt hx2
  have hxw2 : ∃ y, w2 = ext w y := trans_ext xW (trans_ext hxW1 hx2)
  have g1 : w.heap.size < W.heap.size := lW0
  obtain ⟨go, ego⟩ : ∃ g, W.heap.size = g := ⟨_, rfl⟩
  simp only [World.size_alloc] at hSu ⊢
  obtain ⟨gu, egu⟩ : ∃ g, W.heap.size + 1 = g := ⟨_, rfl⟩
  obtain ⟨gl, egl⟩ : ∃ g, w1.heap.size = g := ⟨_, rfl⟩
  rw [egu] at hSu hg1 ⊢
  rw [ego] at hSo g1 ⊢
  rw [egl] at hSl hg1 hg2 ⊢
  have g2 : go < gu := by omega
  have n1 : gu ≠ gl := by omega
  have n2' : gl ≠ gu := by omega
  have HX2 := Lib.hid hxw2
  clear ego egu egl lW0 bW0 fW0 cW0_0 cW0_1 cW0_2 xW hx1 hx1' hx2 hxW1 BQ1 l1 a1 a1' a1'' f1 hxw2
  go_wp2
  go_loopw [7] (fun i wr => ∃ k : Nat, i = .int .i64 k ∧ k ≤ ats.length ∧ SV 4 1 sB wr (.slice (some ⟨gl, 0, none⟩) ats.length ats.length) (List.replicate k true ++ List.replicate (ats.length - k) false) [gl] ∧ SV 3 1 sI wr (.slice (some ⟨gu, 0, none⟩) ats.length ats.length) (List.replicate k (-1) ++ List.replicate (ats.length - k) 0) [gu] ∧ Chg [gu, gl] w2 wr) (fun i _ => ats.length - (intOf i).toNat)
  case atStart => exact ⟨0, rfl, by omega, by simpa using hSl, by simpa using hSu, Chg.refl _ _⟩
  case round =>
    obtain ⟨k, rfl, hk, hSlk, hSuk, hC⟩ := hrel
    by_cases hlt : k < ats.length
    · have hlen : (List.replicate k (-1 : Int) ++ List.replicate (ats.length - k) 0).length = ats.length := by simp; omega
      have hlen2 : (List.replicate k true ++ List.replicate (ats.length - k) false).length = ats.length := by simp; omega
      have HC := Lib.hid hC
      obtain ⟨⟨u, hu⟩, hf, hg⟩ := hSuk.cell hlen (j := k) (by omega)
      obtain ⟨⟨u2, hu2⟩, hf2, hg3⟩ := hSlk.cell hlen2 (j := k) (by omega)
      obtain ⟨s1, s2⟩ := hSlk.set1 hlen2 (k := k) (by omega) (u := .bool true) (d := true) (fun _ => ⟨rfl, rfl⟩)
      have p0 := hSuk.chg s2 (fun b hb h => by simp at hb h; omega)
      obtain ⟨p1, p2⟩ := p0.set1 hlen (k := k) (by omega) (u := .int .i64 (-1)) (d := -1) (fun _ => ⟨rfl, rfl⟩)
      have s3 := s1.chg p2 (fun b hb h => by simp at hb h; omega)
      rw [rep_set hlt] at p1 s3
      have HP1 := Lib.hid p1
      have HP2 := Lib.hid p2
      have HS2 := Lib.hid s2
      have HS3 := Lib.hid s3
      clear hSuk hSlk hC s1 s2 s3 p0 p1 p2 hlen hlen2
      go_wp2
      exact ⟨⟨k + 1, by go_num, by omega, HS3.out, HP1.out, (HC.out.trans HS2.out (fun x hx => .inl (by simp at hx; simp [hx]))).trans HP2.out (fun x hx => .inl (by simp at hx; simp [hx]))⟩, by simp [intOf]; omega⟩
    · have e : k = ats.length := by omega
      rw [show List.replicate k (-1 : Int) ++ List.replicate (ats.length - k) 0 = List.replicate ats.length (-1) by rw [e]; simp] at hSuk
      rw [show List.replicate k true ++ List.replicate (ats.length - k) false = notL (List.replicate ats.length false) by rw [e, notL_rep]; simp] at hSlk
      have hSo4 := hSo.chg hC (fun b hb h => by simp at hb h; omega)
      have hsz := hC.size
      clear e
      go_wp2
      go_loopw [4] (fun v xr => ∃ (rem par : List Int) (gone : List Bool) (F : List Nat), SV 3 1 sI xr v rem F ∧ (∀ b ∈ F, b = go ∨ w2.heap.size ≤ b) ∧ SV 3 1 sI xr (.slice (some ⟨gu, 0, none⟩) ats.length ats.length) par [gu] ∧ SV 4 1 sB xr (.slice (some ⟨gl, 0, none⟩) ats.length ats.length) (notL gone) [gl] ∧ Chg [gu, gl, go] w2 xr ∧ rem.length + leftN gone = ats.length ∧ Hid (gone.length = ats.length ∧ par.length = ats.length ∧ (notL gone).length = ats.length) ∧ Hid (gyo ats (leftN gone) rem par gone = gyoQ ats)) (fun v _ => ats.length - lenV v)
      case atStart => exact ⟨[], List.replicate ats.length (-1), List.replicate ats.length false, [go], hSo4, fun b hb => .inl (by simpa using hb), hSuk, hSlk, hC.mono (fun x hx => .inl (by simp at hx; rcases hx with h | h <;> simp [h])), by rw [leftN_rep]; simp, Lib.hid ⟨by simp, by simp, by simp [notL]⟩, Lib.hid (by rw [leftN_rep]; rfl)⟩
      case round =>
        clear hSuk hSlk hSo4 hC hSo hSu hSl hlt hk
        obtain ⟨rem, par, gone, F, hSr, hF, hSp, hSg, hC, hln, Hl, Hg⟩ := hrel
        have HF := Lib.hid hF
        have HR := Lib.hid hSr
        have HP := Lib.hid hSp
        have HGo := Lib.hid hSg
        have HC := Lib.hid hC
        obtain ⟨A1, c1, rfl, hc1, _⟩ := hSr.form
        have BQr := BQ.chg hC (fun h => by simp at h; omega)
        obtain ⟨lq, aq, aq', aq'', fq⟩ := box3 BQr
        have hz := hC.size
        have hxs : ∃ y, wr = ext w y := HC.out.isExt HX2.out (fun x hx => by simp at hx; omega)
        have HXS := Lib.hid hxs
        obtain ⟨r, hr⟩ : ∃ r, stepG ats gone = r := ⟨_, rfl⟩
        have SR := Lib.hid hr
        have hl9 : rem.length ≤ 1000 := by omega
        clear hF hSr hSp hSg hC hr hxs
        cases r with
        | none =>
          have EI := Lib.hid (show oInt? (stepG ats gone) = -1 by rw [SR.out]; rfl)
          have HK := Lib.hid (show gyoQ ats = (rem, par) by rw [← Hg.out]; exact gyo_none SR.out _)
          go_wp2_with (go_at_call 203; refine (l10Ear_any hx Hxl.out Hl.out.1 hm Hv.out (hA.toExt HXS.out) (HGo.out.toView sB_v)).mono ?_; rintro e w4 ⟨rfl, hx4⟩; rw [EI.out])
          go_ret2
          show RedP ats w _ _
          refine ⟨_, _, F, [gu], rfl, trans_ext HXS.out hx4, by rw [HK.out]; exact HR.out.toExt hx4, by rw [HK.out]; exact HP.out.toExt hx4, fun b hb => ?_, fun b hb => ?_⟩
          · rcases HF.out b hb with h | h <;> omega
          · simp at hb; omega
        | some q =>
          obtain ⟨hq1, hq2, k, hk, hk2⟩ := stepG_some SR.out
          have EI := Lib.hid (show oInt? (stepG ats gone) = (q : Int) by rw [SR.out]; rfl)
          have EK := Lib.hid (show stepK ats gone = (k : Int) by unfold stepK; rw [SR.out]; simp only; rw [hk]; rfl)
          have HGY := Lib.hid ((gyo_some (rem := rem) (par := par) SR.out hk).symm.trans Hg.out)
          have HLN := Lib.hid (leftN_set hq2)
          have q0 : (0 : Int) ≤ (q : Int) := by omega
          have HD1 : Hid (∀ b ∈ [gu], b ∉ F) := Lib.hid (fun b hb h => by simp at hb; rcases HF.out b h with h' | h' <;> omega)
          have HD2 : Hid (∀ b ∈ [gl], b ∉ F) := Lib.hid (fun b hb h => by simp at hb; rcases HF.out b h with h' | h' <;> omega)
          clear hk hq2
          go_wp2_with (first
            | (go_at_call 203; refine (l10Ear_any hx Hxl.out Hl.out.1 hm Hv.out (hA.toExt HXS.out) (HGo.out.toView sB_v)).mono ?_; rintro e w4 ⟨rfl, hx4⟩; rw [EI.out, EK.out])
            | (at_builtin; refine wpList_app1 (E := sI) (d := (q : Int)) rfl _ _ _ rfl tI rfl rfl rfl (by simp) (fun _ => ⟨rfl, rfl⟩) rfl (by simp [Value.oneCell']) (HR.out.toExt hx4) (by omega) (by omega) ?_; intro v6 w6 F6 hS6 hC6 hF6; obtain ⟨⟨up, hup⟩, hfp, hgp⟩ := ((HP.out.toExt hx4).chg hC6 HD1.out).cell Hl.out.2.1 (j := q) (by omega); obtain ⟨⟨ug, hug⟩, hfg, hgg4⟩ := ((HGo.out.toExt hx4).chg hC6 HD2.out).cell Hl.out.2.2 (j := q) (by omega)))
          have hz4 := size_of_ext hx4
          have hz6 := hC6.size
          obtain ⟨p1, p2⟩ := ((HP.out.toExt hx4).chg hC6 HD1.out).set1 Hl.out.2.1 (k := q) hq1 (u := .int .i64 k) (d := (k : Int)) (fun _ => ⟨rfl, rfl⟩)
          have s1 := ((HGo.out.toExt hx4).chg hC6 HD2.out).chg p2 (fun b hb h => by simp at hb h; omega)
          obtain ⟨s2, s3⟩ := s1.set1 Hl.out.2.2 (k := q) hq1 (u := .bool false) (d := false) (fun _ => ⟨rfl, rfl⟩)
          have p3 := p1.chg s3 (fun b hb h => by simp at hb h; omega)
          have hF7 : ∀ b ∈ F6, b = go ∨ w2.heap.size ≤ b := fun b hb => by
            rcases hF6 b hb with h | h
            · exact HF.out b h
            · exact .inr (by omega)
          have r7 := (hS6.chg p2 (fun b hb h => by simp at h; rcases hF7 b hb with h' | h' <;> omega)).chg s3 (fun b hb h => by simp at h; rcases hF7 b hb with h' | h' <;> omega)
          have hcF : ∀ x ∈ F, x ∈ [gu, gl, go] ∨ w2.heap.size ≤ x := fun x hx => by
            rcases HF.out x hx with h | h
            · exact .inl (by simp [h])
            · exact .inr h
          rw [notL_set] at s2
          have hln2 := HLN.out
          exact ⟨⟨rem ++ [(q : Int)], par.set q (k : Int), gone.set q true, F6, r7, hF7, p3, s2, (((HC.out.trans0 hx4).trans hC6 hcF).trans p2 (fun x hx => .inl (by simp at hx; simp [hx]))).trans s3 (fun x hx => .inl (by simp at hx; simp [hx])), by simp; omega, Lib.hid ⟨by rw [List.length_set]; exact Hl.out.1, by rw [List.length_set]; exact Hl.out.2.1, by rw [← notL_set, List.length_set]; exact Hl.out.2.2⟩, HGY⟩, by have := hS6.form; obtain ⟨A6, c6, rfl, _⟩ := this; simp [lenV]; omega⟩
end Go.Proofs.Ytfigcfajkilhiaa
namespace Go.Proofs.Ytfigcfajkilhiaa
open Go.RowKit
def remQ (d : Qd) : List Int := if vqB d = true then (gyoQ d.2.1).1 else []
def acyB (d : Qd) : Bool := vqB d && decide (((gyoQ d.2.1).1.length : Int) = (d.2.1.length : Int) - 1)
def jtQ (d : Qd) : List Int := if acyB d = true then (gyoQ d.2.1).2 else []
theorem gyoQ_len (ats : List At) : (gyoQ ats).1.length ≤ ats.length ∧ (gyoQ ats).2.length = ats.length := by
  have := gyo_len (ats := ats) ats.length [] (List.replicate ats.length (-1)) (List.replicate ats.length false)
  unfold gyoQ
  simp at this
  exact this
set_option maxHeartbeats 2000000 in
theorem specRemovableAtoms_any {A B : Option Addr} {c e1 : Nat} {d : Qd} {w : World} (hb : BQ d) (h : vQ w [.int .i64 d.1, .slice A d.2.1.length c, .slice B d.2.2.length e1] d) :
    Calls Try.prog 202 #[.agg #[.int .i64 d.1, .slice A d.2.1.length c, .slice B d.2.2.length e1]] w fun e w' => ∃ v F, e = .returned v ∧ (∃ y, w' = ext w y) ∧ SV 3 1 sI w' v (remQ d) F ∧ ∀ b ∈ F, w.heap.size ≤ b := by
  have HB := Lib.hid hb
  have HV := Lib.hid h
  obtain ⟨r1, r2, _⟩ := vQ_get h
  have ra := (vAts_get r1).2
  clear r1 r2
  obtain ⟨z, ats, out⟩ := d
  dsimp only at ra ⊢
  clear h hb
  obtain ⟨t1, ht1⟩ : ∃ t, vqB (z, ats, out) = t := ⟨_, rfl⟩
  have N1 := Lib.hid ht1
  cases t1 with
  | false =>
    have HE := Lib.hid (show remQ (z, ats, out) = [] by unfold remQ; rw [ht1]; rfl)
    clear ht1
    go_enter Try.func202, Try.ntmps202
    go_wp2_with (go_at_call 157; refine (specIsValidQuery_any (d := (z, ats, out)) HB.out (VD.toExt HV.out (by refine x'z ?_; repeat (with_reducible (first | exact x'a _ _ | exact x'b _ | exact x'c (by assumption) | refine x'd ?_ (by assumption) | refine x'e ?_ _ | refine x'f ?_ _ | refine x'g ?_ | refine x'h ?_ ?_ _ | refine x'i ?_ _ | refine x'j ?_ | refine x'k ?_ _ | refine x'l ?_ _ _ | refine x'm ?_ | assumption | (refine x'n ?_; omega) | omega))))).mono ?_; rintro e w1 ⟨rfl, hx1⟩; rw [N1.out])
    go_ret
    exact ⟨_, [w1.heap.size], rfl, (by refine x'z ?_; repeat (with_reducible (first | exact x'a _ _ | exact x'b _ | exact x'c (by assumption) | refine x'd ?_ (by assumption) | refine x'e ?_ _ | refine x'f ?_ _ | refine x'g ?_ | refine x'h ?_ ?_ _ | refine x'i ?_ _ | refine x'j ?_ | refine x'k ?_ _ | refine x'l ?_ _ _ | refine x'm ?_ | assumption | (refine x'n ?_; omega) | omega))), by rw [HE.out]; exact SV.empty w1, fun b hb => by have := size_of_ext hx1; simp at hb this; omega⟩
  | true =>
    have HE := Lib.hid (show remQ (z, ats, out) = (gyoQ ats).1 by unfold remQ; rw [ht1]; rfl)
    have ht2 := ht1
    obtain ⟨g1, _, g3⟩ := vqB_facts ht1
    dsimp only at g1 g3
    have Hx : Hid (∀ x ∈ ats, x.2.length ≤ 100000000) := Lib.hid fun x hx => by have := (g3 x hx).2; omega
    have HLn := Lib.hid (gyoQ_len ats)
    have g4 : ats.length ≤ 1000 := by omega
    clear ht1 g3
    have ht1 := ht2
    obtain ⟨g5, g6, g7⟩ := vqB_vars ht1
    dsimp only at g5 g6 g7
    obtain ⟨m, rfl⟩ : ∃ m : Nat, z = m := ⟨z.toNat, by omega⟩
    have Hv : Hid (∀ x ∈ ats, ∀ v ∈ x.2, 0 ≤ v ∧ v < (m : Int)) := Lib.hid g7
    have g8 : m ≤ 1000 := by omega
    clear g5 g6 g7
    clear ht1 ht2
    go_enter Try.func202, Try.ntmps202
    go_wp2_with (first
      | (go_at_call 157; refine (specIsValidQuery_any (d := ((m : Int), ats, out)) HB.out (VD.toExt HV.out (by refine x'z ?_; repeat (with_reducible (first | exact x'a _ _ | exact x'b _ | exact x'c (by assumption) | refine x'd ?_ (by assumption) | refine x'e ?_ _ | refine x'f ?_ _ | refine x'g ?_ | refine x'h ?_ ?_ _ | refine x'i ?_ _ | refine x'j ?_ | refine x'k ?_ _ | refine x'l ?_ _ _ | refine x'm ?_ | assumption | (refine x'n ?_; omega) | omega))))).mono ?_; rintro e w1 ⟨rfl, hx1⟩; rw [N1.out]; have P1 := (BoxAt.new w #[.int .i64 m, .slice A ats.length c, .slice B out.length e1] 55).toExt hx1; obtain ⟨l1, a1, a1', a1'', f1⟩ := box3 P1)
      | (go_at_call 196; refine (l10Run_any g4 Hx.out g8 Hv.out (ra.toExt (by refine x'z ?_; repeat (with_reducible (first | exact x'a _ _ | exact x'b _ | exact x'c (by assumption) | refine x'd ?_ (by assumption) | refine x'e ?_ _ | refine x'f ?_ _ | refine x'g ?_ | refine x'h ?_ ?_ _ | refine x'i ?_ _ | refine x'j ?_ | refine x'k ?_ _ | refine x'l ?_ _ _ | refine x'm ?_ | assumption | (refine x'n ?_; omega) | omega))))).mono ?_; rintro e w2 ⟨v1, v2, F1, F2, rfl, hx2, hS1, hS2, hF1, hF2⟩))
    go_ret
    exact ⟨_, F1, rfl, (by refine x'z ?_; repeat (with_reducible (first | exact x'a _ _ | exact x'b _ | exact x'c (by assumption) | refine x'd ?_ (by assumption) | refine x'e ?_ _ | refine x'f ?_ _ | refine x'g ?_ | refine x'h ?_ ?_ _ | refine x'i ?_ _ | refine x'j ?_ | refine x'k ?_ _ | refine x'l ?_ _ _ | refine x'm ?_ | assumption | (refine x'n ?_; omega) | omega))), by rw [HE.out]; exact hS1, fun b hb => Nat.le_trans (size_of_ext (by refine x'z ?_; repeat (with_reducible (first | exact x'a _ _ | exact x'b _ | exact x'c (by assumption) | refine x'd ?_ (by assumption) | refine x'e ?_ _ | refine x'f ?_ _ | refine x'g ?_ | refine x'h ?_ ?_ _ | refine x'i ?_ _ | refine x'j ?_ | refine x'k ?_ _ | refine x'l ?_ _ _ | refine x'm ?_ | assumption | (refine x'n ?_; omega) | omega)))) (hF1 b hb)⟩
end Go.Proofs.Ytfigcfajkilhiaa
namespace Go.Proofs.Ytfigcfajkilhiaa
open Go.RowKit
set_option maxHeartbeats 4000000 in
theorem specIsAcyclic_any {A B : Option Addr} {c e1 : Nat} {d : Qd} {w : World} (hb : BQ d) (h : vQ w [.int .i64 d.1, .slice A d.2.1.length c, .slice B d.2.2.length e1] d) :
    Calls Try.prog 195 #[.agg #[.int .i64 d.1, .slice A d.2.1.length c, .slice B d.2.2.length e1]] w fun e w' => e = .returned (.bool (acyB d)) ∧ ∃ y, w' = ext w y := by
  have HB := Lib.hid hb
  have HV := Lib.hid h
  obtain ⟨r1, r2, _⟩ := vQ_get h
  have ra := (vAts_get r1).2
  clear r1 r2
  obtain ⟨z, ats, out⟩ := d
  dsimp only at ra ⊢
  clear h hb
  obtain ⟨t1, ht1⟩ : ∃ t, vqB (z, ats, out) = t := ⟨_, rfl⟩
  have N1 := Lib.hid ht1
  cases t1 with
  | false =>
    have HE := Lib.hid (show acyB (z, ats, out) = false by unfold acyB; rw [ht1]; rfl)
    clear ht1
    go_enter Try.func195, Try.ntmps195
    go_upto_region 1 with fail
    refine wp_name ?_
    intro W hW
    have xW : ∃ y, W = ext w y := by rw [hW.out]; exact (by refine x'z ?_; repeat (with_reducible (first | exact x'a _ _ | exact x'b _ | exact x'c (by assumption) | refine x'd ?_ (by assumption) | refine x'e ?_ _ | refine x'f ?_ _ | refine x'g ?_ | refine x'h ?_ ?_ _ | refine x'i ?_ _ | refine x'j ?_ | refine x'k ?_ _ | refine x'l ?_ _ _ | refine x'm ?_ | assumption | (refine x'n ?_; omega) | omega)))
    have BW0 : BoxAt W (w.heap.size) #[.int .i64 z, .slice A ats.length c, .slice B out.length e1] := by rw [hW.out]; refine ⟨?_, fun j => ?_, fun j => ?_⟩ <;> go_simp
    obtain ⟨lW0, bW0, fW0⟩ := BW0
    have cW0_0 : W.cell? ⟨w.heap.size, 0, none⟩ = some (.int .i64 z) := bW0 0
    have cW0_1 : W.cell? ⟨w.heap.size, 1, none⟩ = some (.slice A ats.length c) := bW0 1
    have cW0_2 : W.cell? ⟨w.heap.size, 2, none⟩ = some (.slice B out.length e1) := bW0 2
    clear hW
    go_wp2
    refine wp_region_ext (by kernel_rfl) (by kernel_rfl) ?_
    repeat (go_big_quiet_step ((go_at_call 157; exact quietEb (specIsValidQuery_any (d := (z, ats, out)) HB.out (VD.toExt HV.out (trans_ext xW ⟨_, rfl⟩))) N1.out)))
    refine wpQuiet_nil ?_
    rintro _ ⟨zz, rfl⟩
    go_wp2
    go_ret
    exact ⟨by rw [HE.out]; rfl, (by refine x'z ?_; repeat (with_reducible (first | exact x'a _ _ | exact x'b _ | exact x'c (by assumption) | refine x'd ?_ (by assumption) | refine x'e ?_ _ | refine x'f ?_ _ | refine x'g ?_ | refine x'h ?_ ?_ _ | refine x'i ?_ _ | refine x'j ?_ | refine x'k ?_ _ | refine x'l ?_ _ _ | refine x'm ?_ | assumption | (refine x'n ?_; omega) | omega)))⟩
  | true =>
    have HE := Lib.hid (show acyB (z, ats, out) = decide (((gyoQ ats).1.length : Int) = (ats.length : Int) - 1) by unfold acyB; rw [ht1]; rfl)
    have HR := Lib.hid (show remQ (z, ats, out) = (gyoQ ats).1 by unfold remQ; rw [ht1]; rfl)
    obtain ⟨g1, _, g3⟩ := vqB_facts ht1
    dsimp only at g1 g3
    have Hx : Hid (∀ x ∈ ats, x.2.length ≤ 100000000) := Lib.hid fun x hx => by have := (g3 x hx).2; omega
    have HLn := Lib.hid (gyoQ_len ats)
    have g4 : ats.length ≤ 1000 := by omega
    clear ht1 g3
    go_enter Try.func195, Try.ntmps195
    go_upto_region 1 with fail
    refine wp_name ?_
    intro W hW
    have xW : ∃ y, W = ext w y := by rw [hW.out]; exact (by refine x'z ?_; repeat (with_reducible (first | exact x'a _ _ | exact x'b _ | exact x'c (by assumption) | refine x'd ?_ (by assumption) | refine x'e ?_ _ | refine x'f ?_ _ | refine x'g ?_ | refine x'h ?_ ?_ _ | refine x'i ?_ _ | refine x'j ?_ | refine x'k ?_ _ | refine x'l ?_ _ _ | refine x'm ?_ | assumption | (refine x'n ?_; omega) | omega)))
    have BW0 : BoxAt W (w.heap.size) #[.int .i64 z, .slice A ats.length c, .slice B out.length e1] := by rw [hW.out]; refine ⟨?_, fun j => ?_, fun j => ?_⟩ <;> go_simp
    obtain ⟨lW0, bW0, fW0⟩ := BW0
    have cW0_0 : W.cell? ⟨w.heap.size, 0, none⟩ = some (.int .i64 z) := bW0 0
    have cW0_1 : W.cell? ⟨w.heap.size, 1, none⟩ = some (.slice A ats.length c) := bW0 1
    have cW0_2 : W.cell? ⟨w.heap.size, 2, none⟩ = some (.slice B out.length e1) := bW0 2
    clear hW
    have g9 := HLn.out.1
    obtain ⟨L, hL⟩ : ∃ L, (gyoQ ats).1 = L := ⟨_, rfl⟩
    rw [hL] at g9
    have HLL := Lib.hid hL
    clear hL HLn
    go_wp2
    go_region_held3 (fun w' => (∀ a : Addr, a.block < W.heap.size → w'.cell? a = W.cell? a) ∧ ∃ y, w' = ext W y) (first | exact heldE (by refine x'z ?_; repeat (with_reducible (first | exact x'a _ _ | exact x'b _ | exact x'c (by assumption) | refine x'd ?_ (by assumption) | refine x'e ?_ _ | refine x'f ?_ _ | refine x'g ?_ | refine x'h ?_ ?_ _ | refine x'i ?_ _ | refine x'j ?_ | refine x'k ?_ _ | refine x'l ?_ _ _ | refine x'm ?_ | assumption | (refine x'n ?_; omega) | omega))))
      (first
        | (go_at_call 157; refine (specIsValidQuery_any (d := (z, ats, out)) HB.out (VD.toExt HV.out (by refine x'z ?_; repeat (with_reducible (first | exact x'a _ _ | exact x'b _ | exact x'c (by assumption) | refine x'd ?_ (by assumption) | refine x'e ?_ _ | refine x'f ?_ _ | refine x'g ?_ | refine x'h ?_ ?_ _ | refine x'i ?_ _ | refine x'j ?_ | refine x'k ?_ _ | refine x'l ?_ _ _ | refine x'm ?_ | assumption | (refine x'n ?_; omega) | omega))))).mono ?_; rintro e w1 ⟨rfl, hx1⟩; rw [N1.out])
        | (go_at_call 202; refine (specRemovableAtoms_any (d := (z, ats, out)) HB.out (VD.toExt HV.out (by refine x'z ?_; repeat (with_reducible (first | exact x'a _ _ | exact x'b _ | exact x'c (by assumption) | refine x'd ?_ (by assumption) | refine x'e ?_ _ | refine x'f ?_ _ | refine x'g ?_ | refine x'h ?_ ?_ _ | refine x'i ?_ _ | refine x'j ?_ | refine x'k ?_ _ | refine x'l ?_ _ _ | refine x'm ?_ | assumption | (refine x'n ?_; omega) | omega))))).mono ?_; rintro e w2 ⟨v2, F2, rfl, hx2, hS2, hF2⟩; rw [HR.out, HLL.out] at hS2; obtain ⟨A2, c2, rfl, _⟩ := hS2.form))
    all_goals
      go_wp2
      go_ret
      exact ⟨by rw [HE.out, HLL.out]; exact congrArg (fun b => Ending.returned (Value.bool b)) (show ((L.length : Int) == IntKind.i64.wrap ((ats.length : Int) - 1)) = decide ((L.length : Int) = (ats.length : Int) - 1) by rw [IntWalk.i64_in _ (by omega)]; rfl), (by refine x'z ?_; repeat (with_reducible (first | exact x'a _ _ | exact x'b _ | exact x'c (by assumption) | refine x'd ?_ (by assumption) | refine x'e ?_ _ | refine x'f ?_ _ | refine x'g ?_ | refine x'h ?_ ?_ _ | refine x'i ?_ _ | refine x'j ?_ | refine x'k ?_ _ | refine x'l ?_ _ _ | refine x'm ?_ | assumption | (refine x'n ?_; omega) | omega)))⟩
end Go.Proofs.Ytfigcfajkilhiaa
namespace Go.Proofs.Ytfigcfajkilhiaa
open Go.RowKit
def JtP (d : Qd) (w : World) (e : Ending) (w' : World) : Prop := ∃ v F, e = .returned (.tuple #[.agg #[v], .bool (acyB d)]) ∧ (∃ y, w' = ext w y) ∧ SV 3 1 sI w' v (jtQ d) F ∧ ∀ b ∈ F, w.heap.size ≤ b
set_option maxHeartbeats 4000000 in
theorem specBuildJoinTree_any {A B : Option Addr} {c e1 : Nat} {d : Qd} {w : World} (hb : BQ d) (h : vQ w [.int .i64 d.1, .slice A d.2.1.length c, .slice B d.2.2.length e1] d) :
    Calls Try.prog 190 #[.agg #[.int .i64 d.1, .slice A d.2.1.length c, .slice B d.2.2.length e1]] w (JtP d w) := by
  have HB := Lib.hid hb
  have HV := Lib.hid h
  obtain ⟨r1, r2, _⟩ := vQ_get h
  have ra := (vAts_get r1).2
  clear r1 r2
  obtain ⟨z, ats, out⟩ := d
  dsimp only at ra ⊢
  clear h hb
  obtain ⟨t1, ht1⟩ : ∃ t, acyB (z, ats, out) = t := ⟨_, rfl⟩
  have N1 := Lib.hid ht1
  cases t1 with
  | false =>
    have HE := Lib.hid (show jtQ (z, ats, out) = [] by unfold jtQ; rw [ht1]; rfl)
    clear ht1
    go_enter Try.func190, Try.ntmps190
    go_upto_region 1 with fail
    refine wp_name ?_
    intro W hW
    have xW : ∃ y, W = ext w y := by rw [hW.out]; exact (by refine x'z ?_; repeat (with_reducible (first | exact x'a _ _ | exact x'b _ | exact x'c (by assumption) | refine x'd ?_ (by assumption) | refine x'e ?_ _ | refine x'f ?_ _ | refine x'g ?_ | refine x'h ?_ ?_ _ | refine x'i ?_ _ | refine x'j ?_ | refine x'k ?_ _ | refine x'l ?_ _ _ | refine x'm ?_ | assumption | (refine x'n ?_; omega) | omega)))
    have BW0 : BoxAt W (w.heap.size) #[.int .i64 z, .slice A ats.length c, .slice B out.length e1] := by rw [hW.out]; refine ⟨?_, fun j => ?_, fun j => ?_⟩ <;> go_simp
    obtain ⟨lW0, bW0, fW0⟩ := BW0
    have cW0_0 : W.cell? ⟨w.heap.size, 0, none⟩ = some (.int .i64 z) := bW0 0
    have cW0_1 : W.cell? ⟨w.heap.size, 1, none⟩ = some (.slice A ats.length c) := bW0 1
    have cW0_2 : W.cell? ⟨w.heap.size, 2, none⟩ = some (.slice B out.length e1) := bW0 2
    have BW1 : BoxAt W (w.heap.size + 1) #[.slice none 0 0] := by rw [hW.out]; refine ⟨?_, fun j => ?_, fun j => ?_⟩ <;> go_simp
    obtain ⟨lW1, bW1, fW1⟩ := BW1
    have cW1_0 : W.cell? ⟨w.heap.size + 1, 0, none⟩ = some (.slice none 0 0) := bW1 0
    clear hW
    go_wp2_with (go_at_call 195; refine (specIsAcyclic_any (d := (z, ats, out)) HB.out (VD.toExt HV.out (by refine x'z ?_; repeat (with_reducible (first | exact x'a _ _ | exact x'b _ | exact x'c (by assumption) | refine x'd ?_ (by assumption) | refine x'e ?_ _ | refine x'f ?_ _ | refine x'g ?_ | refine x'h ?_ ?_ _ | refine x'i ?_ _ | refine x'j ?_ | refine x'k ?_ _ | refine x'l ?_ _ _ | refine x'm ?_ | assumption | (refine x'n ?_; omega) | omega))))).mono ?_; rintro e w1 ⟨rfl, hx1⟩; rw [N1.out]; have R1 := BoxAt.toExt (cs := #[.slice none 0 0]) ⟨lW1, bW1, fW1⟩ hx1; obtain ⟨l1, a1, f1⟩ := box1 R1)
    exact bodyPost_ret (v := .tuple #[.agg #[.slice none 0 0], .bool false]) (by simp [results, Try.results190, go_sem, *]) rfl ⟨_, [], by rw [N1.out], (by refine x'z ?_; repeat (with_reducible (first | exact x'a _ _ | exact x'b _ | exact x'c (by assumption) | refine x'd ?_ (by assumption) | refine x'e ?_ _ | refine x'f ?_ _ | refine x'g ?_ | refine x'h ?_ ?_ _ | refine x'i ?_ _ | refine x'j ?_ | refine x'k ?_ _ | refine x'l ?_ _ _ | refine x'm ?_ | assumption | (refine x'n ?_; omega) | omega))), by rw [HE.out]; exact SV.nil, by simp⟩
  | true =>
    have HE := Lib.hid (show jtQ (z, ats, out) = (gyoQ ats).2 by unfold jtQ; rw [ht1]; rfl)
    have hv1 : vqB (z, ats, out) = true := by unfold acyB at ht1; rw [Bool.and_eq_true] at ht1; exact ht1.1
    have HAC := Lib.hid ht1
    clear ht1
    have ht1 := hv1
    have ht2 := hv1
    clear hv1
    obtain ⟨g1, _, g3⟩ := vqB_facts ht1
    dsimp only at g1 g3
    have Hx : Hid (∀ x ∈ ats, x.2.length ≤ 100000000) := Lib.hid fun x hx => by have := (g3 x hx).2; omega
    have HLn := Lib.hid (gyoQ_len ats)
    have g4 : ats.length ≤ 1000 := by omega
    clear ht1 g3
    have ht1 := ht2
    obtain ⟨g5, g6, g7⟩ := vqB_vars ht1
    dsimp only at g5 g6 g7
    obtain ⟨m, rfl⟩ : ∃ m : Nat, z = m := ⟨z.toNat, by omega⟩
    have Hv : Hid (∀ x ∈ ats, ∀ v ∈ x.2, 0 ≤ v ∧ v < (m : Int)) := Lib.hid g7
    have g8 : m ≤ 1000 := by omega
    clear g5 g6 g7
    clear ht1 ht2
    go_enter Try.func190, Try.ntmps190
    go_upto_region 1 with fail
    refine wp_name ?_
    intro W hW
    have xW : ∃ y, W = ext w y := by rw [hW.out]; exact (by refine x'z ?_; repeat (with_reducible (first | exact x'a _ _ | exact x'b _ | exact x'c (by assumption) | refine x'd ?_ (by assumption) | refine x'e ?_ _ | refine x'f ?_ _ | refine x'g ?_ | refine x'h ?_ ?_ _ | refine x'i ?_ _ | refine x'j ?_ | refine x'k ?_ _ | refine x'l ?_ _ _ | refine x'm ?_ | assumption | (refine x'n ?_; omega) | omega)))
    have BW0 : BoxAt W (w.heap.size) #[.int .i64 m, .slice A ats.length c, .slice B out.length e1] := by rw [hW.out]; refine ⟨?_, fun j => ?_, fun j => ?_⟩ <;> go_simp
    obtain ⟨lW0, bW0, fW0⟩ := BW0
    have cW0_0 : W.cell? ⟨w.heap.size, 0, none⟩ = some (.int .i64 m) := bW0 0
    have cW0_1 : W.cell? ⟨w.heap.size, 1, none⟩ = some (.slice A ats.length c) := bW0 1
    have cW0_2 : W.cell? ⟨w.heap.size, 2, none⟩ = some (.slice B out.length e1) := bW0 2
    have BW1 : BoxAt W (w.heap.size + 1) #[.slice none 0 0] := by rw [hW.out]; refine ⟨?_, fun j => ?_, fun j => ?_⟩ <;> go_simp
    obtain ⟨lW1, bW1, fW1⟩ := BW1
    have cW1_0 : W.cell? ⟨w.heap.size + 1, 0, none⟩ = some (.slice none 0 0) := bW1 0
    clear hW
    have Z1 : w.heap.size < w.heap.size + 1 := by omega
    go_wp2_with (first
      | (go_at_call 195; refine (specIsAcyclic_any (d := ((m : Int), ats, out)) HB.out (VD.toExt HV.out (by refine x'z ?_; repeat (with_reducible (first | exact x'a _ _ | exact x'b _ | exact x'c (by assumption) | refine x'd ?_ (by assumption) | refine x'e ?_ _ | refine x'f ?_ _ | refine x'g ?_ | refine x'h ?_ ?_ _ | refine x'i ?_ _ | refine x'j ?_ | refine x'k ?_ _ | refine x'l ?_ _ _ | refine x'm ?_ | assumption | (refine x'n ?_; omega) | omega))))).mono ?_; rintro e w1 ⟨rfl, hx1⟩; rw [N1.out]; have R1 := BoxAt.toExt (cs := #[.slice none 0 0]) ⟨lW1, bW1, fW1⟩ hx1; have P1 := BoxAt.toExt (cs := #[.int .i64 m, .slice A ats.length c, .slice B out.length e1]) ⟨lW0, bW0, fW0⟩ hx1; obtain ⟨l0, a0, a0', a0'', f0⟩ := box3 P1)
      | (go_at_call 196; refine (l10Run_any g4 Hx.out g8 Hv.out (ra.toExt (by refine x'z ?_; repeat (with_reducible (first | exact x'a _ _ | exact x'b _ | exact x'c (by assumption) | refine x'd ?_ (by assumption) | refine x'e ?_ _ | refine x'f ?_ _ | refine x'g ?_ | refine x'h ?_ ?_ _ | refine x'i ?_ _ | refine x'j ?_ | refine x'k ?_ _ | refine x'l ?_ _ _ | refine x'm ?_ | assumption | (refine x'n ?_; omega) | omega))))).mono ?_; rintro e w2 ⟨v1, v2, F1, F2, rfl, hx2, hS1, hS2, hF1, hF2⟩; obtain ⟨A2, c2, rfl, _⟩ := hS2.form; have R2 := R1.toExt hx2; obtain ⟨l2, a2, f2⟩ := box1 R2))
    have hz2 := size_of_ext xW
    have hz1 := size_of_ext hx1
    have hF3 : ∀ b ∈ F2, b ∉ [w.heap.size + 1] := fun b hb h => by have := hF2 b hb; simp at h; omega
    have hS3 := hS2.chg ((Chg.refl [w.heap.size + 1] w2).setCell (p := ⟨w.heap.size + 1, 0, none⟩) (.inl (by simp)) (.slice A2 (gyoQ ats).2.length c2)) hF3
    exact bodyPost_ret (v := .tuple #[.agg #[.slice A2 (gyoQ ats).2.length c2], .bool true]) (by simp [results, Try.results190, go_sem, *]) rfl ⟨_, F2, by rw [N1.out], (by refine x'z ?_; repeat (with_reducible (first | exact x'a _ _ | exact x'b _ | exact x'c (by assumption) | refine x'd ?_ (by assumption) | refine x'e ?_ _ | refine x'f ?_ _ | refine x'g ?_ | refine x'h ?_ ?_ _ | refine x'i ?_ _ | refine x'j ?_ | refine x'k ?_ _ | refine x'l ?_ _ _ | refine x'm ?_ | assumption | (refine x'n ?_; omega) | omega))), by rw [HE.out]; exact hS3, fun b hb => Nat.le_trans (size_of_ext (by refine x'z ?_; repeat (with_reducible (first | exact x'a _ _ | exact x'b _ | exact x'c (by assumption) | refine x'd ?_ (by assumption) | refine x'e ?_ _ | refine x'f ?_ _ | refine x'g ?_ | refine x'h ?_ ?_ _ | refine x'i ?_ _ | refine x'j ?_ | refine x'k ?_ _ | refine x'l ?_ _ _ | refine x'm ?_ | assumption | (refine x'n ?_; omega) | omega)))) (hF2 b hb)⟩
end Go.Proofs.Ytfigcfajkilhiaa
