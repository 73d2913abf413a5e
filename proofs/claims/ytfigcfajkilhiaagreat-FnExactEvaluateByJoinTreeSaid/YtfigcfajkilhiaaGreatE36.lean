/- Contracts of functions that the statement reaches. -/
import Derived.Test.YtfigcfajkilhiaaGreatE32
import Derived.Test.YtfigcfajkilhiaaGreatE33
import Derived.Test.YtfigcfajkilhiaaGreatE34
import Derived.Test.YtfigcfajkilhiaaGreatE35
namespace Go.Proofs.YtfigcfajkilhiaaGreat
open Go.RowKit
theorem evT_none {d : Dbd} {q : Qd} {ps : List Int} (h : fullR d q ps = none) : evT d q ps = none := by
  unfold fullR at h
  unfold evT
  split at h
  · cases h
  · rename_i h9; rw [if_neg h9]
theorem evT_bd (d : Dbd) (q : Qd) (ps : List Int) : BRel ((evT d q ps).getD (0, [])) := by
  unfold evT
  split
  · exact eval_bd d q
  · exact zRel_bd
theorem prs_step {ps o : List Int} {k i p : Nat} (h : k < o.length) (hi : o[k] = (i : Int)) (hp : ps.getD i 0 = (p : Int)) : prs ps (o.take (k + 1)) = prs ps (o.take k) ++ [(i, p)] := by
  rw [prs_take h, hi]
  unfold prI
  rw [Int.toNat_natCast, hp, if_pos (by omega)]
  rfl
theorem prs_last {ps o : List Int} {k i : Nat} (h : k + 1 = o.length) (hi : o[k]'(by omega) = (i : Int)) (hp : ps.getD i 0 < 0) : prs ps (o.take k) = prs ps o := by
  have e : prs ps (o.take (k + 1)) = prs ps (o.take k) ++ prI ps (o[k]'(by omega)) := prs_take (by omega)
  rw [h, List.take_length, hi] at e
  unfold prI at e
  rw [Int.toNat_natCast, if_neg (by omega), List.append_nil] at e
  exact e.symm
theorem prs_rest {ps o : List Int} {k : Nat} : ∃ r, prs ps o = prs ps (o.take k) ++ r := ⟨prs ps (o.drop k), by rw [← prs_append, List.take_append_drop]⟩
def CutK (o : Option VRd) (wr : World) (va vb : Value) (wx : World) : Prop := ∃ b A a B b2 F, va = .pointer (some ⟨b, 0, none⟩) ∧ vb = .bool o.isSome ∧ BoxAt wx b #[.slice A (o.getD zVR).1.length a, .int .i64 (o.getD zVR).2.1, .slice B (o.getD zVR).2.2.length b2] ∧ sVR wx [.slice A (o.getD zVR).1.length a, .int .i64 (o.getD zVR).2.1, .slice B (o.getD zVR).2.2.length b2] (o.getD zVR) F ∧ F.Nodup ∧ (∀ x ∈ F, wr.heap.size ≤ x) ∧ wr.heap.size ≤ b ∧ ∃ y, wx = ext wr y
theorem heldG {W w' : World} {g : Nat} (h : Chg [g] W w') : ∀ b o : Nat, b < W.heap.size → b ≠ g → w'.cell? ⟨b, o, none⟩ = W.cell? ⟨b, o, none⟩ := fun b o h1 h2 => h.cell (by simpa using h2) h1
def CutQ (o : Option Rd) (wr : World) (va vb : Value) (wx : World) : Prop := ∃ b A c F, va = .pointer (some ⟨b, 0, none⟩) ∧ vb = .bool o.isSome ∧ BoxAt wx b #[.int .i64 (o.getD (0, [])).1, .slice A (o.getD (0, [])).2.length c] ∧ sRel wx [.int .i64 (o.getD (0, [])).1, .slice A (o.getD (0, [])).2.length c] (o.getD (0, [])) F ∧ F.Nodup ∧ (∀ x ∈ F, wr.heap.size ≤ x) ∧ ∃ y, wx = ext wr y
set_option maxRecDepth 100000 in
set_option maxHeartbeats 16000000 in
theorem specEvaluateByJoinTree_any {A B C D : Option Addr} {c e g f1 : Nat} {d : Dbd} {q : Qd} {ps : List Int} {w : World} (hd : WDb d) (h1 : RV 3 vTb w A d) (hb : BQ q) (h2 : vQ w [.int .i64 q.1, .slice B q.2.1.length e, .slice C q.2.2.length g] q) (hp : ps.length ≤ 100000000) (h3 : RI w D ps) :
    Calls Tryz.prog 22 #[.agg #[.slice A d.length c], .agg #[.int .i64 q.1, .slice B q.2.1.length e, .slice C q.2.2.length g], .agg #[.slice D ps.length f1]] w (RelOut (evT d q ps) w) := by
  have HD := Lib.hid hd
  have HB := Lib.hid hb
  have HV := Lib.hid h2
  have hgo := (vQ_get h2).2.1
  have hgl : q.2.2.length ≤ 1000000000 := by have := hb.2.2; omega
  obtain ⟨ot, hot⟩ : ∃ o, fullR d q ps = o := ⟨_, rfl⟩
  have HO := Lib.hid hot
  clear hd hb h2 hot
  go_enter Tryz.func22, Tryz.ntmps22
  go_upto_region 1 with fail
  refine wp_name ?_
  intro W hW
  have xW : ∃ y, W = ext w y := by rw [hW.out]; exact (by refine x'z ?_; repeat (with_reducible (first | exact x'a _ _ | exact x'b _ | exact x'c (by assumption) | refine x'd ?_ (by assumption) | refine x'e ?_ _ | refine x'f ?_ _ | refine x'g ?_ | refine x'h ?_ ?_ _ | refine x'i ?_ _ | refine x'j ?_ | refine x'k ?_ _ | refine x'l ?_ _ _ | refine x'm ?_ | assumption | (refine x'n ?_; omega) | omega)))
  have PW : BoxAt W w.heap.size #[.slice A d.length c] := by rw [hW.out]; refine ⟨?_, fun j => ?_, fun j => ?_⟩ <;> go_simp
  have QW : BoxAt W (w.heap.size + 1) #[.int .i64 q.1, .slice B q.2.1.length e, .slice C q.2.2.length g] := by rw [hW.out]; refine ⟨?_, fun j => ?_, fun j => ?_⟩ <;> go_simp
  have TW : BoxAt W (w.heap.size + 1 + 1) #[.slice D ps.length f1] := by rw [hW.out]; refine ⟨?_, fun j => ?_, fun j => ?_⟩ <;> go_simp
  have RW : BoxAt W (w.heap.size + 1 + 1 + 1) #[.int .i64 0, .slice none 0 0] := by rw [hW.out]; refine ⟨?_, fun j => ?_, fun j => ?_⟩ <;> go_simp
  obtain ⟨lp, p0, fp⟩ := bx1 PW
  obtain ⟨lq, q0, q1, q2, fq⟩ := box3 QW
  obtain ⟨lt, r0, ft⟩ := bx1 TW
  have hWr := RW.1
  clear hW
  cases ot with
  | none =>
    have HZN := Lib.hid (evT_none HO.out)
    go_wp2_with (go_at_call 8; refine (specFullReduction_any HD.out (h1.toExt xW) HB.out (VD.toExt HV.out xW) hp (h3.toExt xW)).mono ?_; rw [HO.out]; rintro e w1 ⟨v1, F1, rfl, hx1, _, _, _⟩; rw [Option.isSome_none]; obtain ⟨lr1, r10, r11, fr1⟩ := bx2 (RW.toExt hx1))
    refine bodyPost_ret (v := .tuple #[.agg #[.int .i64 0, .slice none 0 0], .bool false]) (by simp [results, Tryz.results22, go_sem, *]) rfl (relOut_none HZN.out rfl (by refine x'z ?_; repeat (with_reducible (first | exact x'a _ _ | exact x'b _ | exact x'c (by assumption) | refine x'd ?_ (by assumption) | refine x'e ?_ _ | refine x'f ?_ _ | refine x'g ?_ | refine x'h ?_ ?_ _ | refine x'i ?_ _ | refine x'j ?_ | refine x'k ?_ _ | refine x'l ?_ _ _ | refine x'm ?_ | assumption | (refine x'n ?_; omega) | omega))))
  | some D1 =>
    have hq12 : iqfB d q = true ∧ ivjB q ps = true := by
      have h := HO.out
      unfold fullR at h
      split at h
      · rename_i h9; exact h9
      · cases h
    have hD1 : D1 = fullD d q (prs ps (upL ps)) := by
      have h := HO.out
      unfold fullR at h
      rw [if_pos hq12] at h
      injection h with h
      exact h.symm
    have hjt : jtB q.1.toNat q.2.1 ps = true := by have h := hq12.2; unfold ivjB at h; rw [Bool.and_eq_true] at h; exact h.2
    obtain ⟨r, hY⟩ := yan hq12.1 hjt
    have HORD := Lib.hid hY.ord
    have HUI := Lib.hid hY.ord.oi
    have HRT := Lib.hid hY.ord.root
    have hnn := hY.n
    have hn4 := hY.n4
    have hn1 := hY.n1
    have hz5 : -1000000000 ≤ q.1 ∧ q.1 ≤ 1000000000 := by have a := hY.ok.n1; have b := hY.ok.n5; omega
    have HEV := Lib.hid (show (match joinG (prs ps (ordL ps)) D1 with | none => none | some ds => projR (ds.getD r zV).2 q.2.2) = evT d q ps by
      have h := hY.eval hq12.1 hY.ord.up hY.ord.od
      rw [← hD1] at h
      have h2 : evT d q ps = evalR d q := by unfold evT; rw [if_pos hq12]
      rw [h2]
      exact h)
    have HJN := Lib.hid (show ∀ ds, joinG (prs ps (ordL ps)) D1 = some ds → ds.length = q.2.1.length ∧ (ds.getD r zV).2.1 = q.1 ∧ (ds.getD r zV).2.2.length ≤ 4000 ∧ ∀ x ∈ (ds.getD r zV).2.2, x.length ≤ 5 from fun ds hds => by
      rw [hD1] at hds
      obtain ⟨a1, a2, a3⟩ := (hY.join hY.ord.up hY.ord.od).2 ds hds
      rw [a2]
      exact ⟨a1, rfl, a3, fun x hx => (allB_rows hq12.1 x hx).2⟩)
    have hrn : r < q.2.1.length := by
      obtain ⟨N, hE, hN⟩ := hY.ord.up
      have := (hN r).1 (elim_root hE)
      omega
    have HUL := Lib.hid (show (ordL ps).length = ps.length from hY.ord.ol)
    have HPO := Lib.hid (show ∀ i ∈ (ordL ps).take (ps.length - 1), 0 ≤ ps.getD i.toNat 0 by rw [← hY.ord.ol]; exact hY.ord.pos)
    have HRL := Lib.hid (show ps.getD ((ordL ps).getD (ps.length - 1) 0).toNat 0 = -1 by rw [← hY.ord.ol]; exact hY.ord.last)
    have HPI := Lib.hid (show ∀ x ∈ ps, x < (ps.length : Int) from fun x hx => by
      have htb : treeB ps = true := by unfold jtB at hjt; rw [Bool.and_eq_true, Bool.and_eq_true] at hjt; exact hjt.1.2
      have := (treeB_in htb x hx).2
      omega)
    have HOKD := Lib.hid (show OkDs D1 by rw [hD1]; exact full_ok hnn HPI.out hY.ord.ui)
    have HLD1 := Lib.hid (show D1.length = q.2.1.length by rw [hD1]; exact fullD_len _ _ _)
    have HPN := Lib.hid hnn
    clear hq12 hD1 hjt hY hnn
    go_upto_region 4 with (go_at_call 8; refine (specFullReduction_any HD.out (h1.toExt xW) HB.out (VD.toExt HV.out xW) hp (h3.toExt xW)).mono ?_; rw [HO.out]; rintro e w1 ⟨v1, F1, rfl, hx1, hS1, hN1, hF1⟩; rw [Option.isSome_some]; rw [Option.getD_some] at hS1)
    obtain ⟨n, hn⟩ : ∃ n, q.2.1.length = n := ⟨_, rfl⟩
    rw [hn] at hn4 hn1 hrn
    have HPN := Lib.hid (show ps.length = n by rw [HPN.out, hn])
    have HLD1 := Lib.hid (show D1.length = n by rw [HLD1.out, hn])
    have HUL := Lib.hid (show (ordL ps).length = n by rw [HUL.out, HPN.out])
    rw [HPN.out] at HPO HRL
    obtain ⟨bt, ot, rfl⟩ := h3.pl (by rw [HPN.out]; omega)
    have HPT := Lib.hid h3
    obtain ⟨ga, c8, hv8, hgF, _, _⟩ := hS1.block (by intro h; have h2 := HLD1.out; rw [h] at h2; simp at h2; omega)
    rw [HLD1.out] at hv8
    subst hv8
    have HS1 := Lib.hid hS1
    have HN1 := Lib.hid hN1
    have HF1 := Lib.hid hF1
    have hxw1 := trans_ext xW hx1
    have hzw := size_of_ext xW
    have hzw1 := size_of_ext hx1
    have hgaW := hF1 ga hgF
    have hga1 := hS1.lt ga hgF
    obtain ⟨lt1, r01, ft1⟩ := bx1 (TW.toExt hx1)
    clear hn h3 hS1 hN1 hF1 hgF lp p0 fp lq q0 q1 q2 fq lt r0 ft
    obtain ⟨o, ho⟩ : ∃ o, ordL ps = o := ⟨_, rfl⟩
    have HOE := Lib.hid ho
    rw [ho] at HUI HUL HEV HJN HPO HRL
    clear ho
    go_cut [10] (fun vo wx => ∃ go co Fo, vo = .slice (some ⟨go, 0, none⟩) n co ∧ SV 3 1 sI wx (.slice (some ⟨go, 0, none⟩) n co) o Fo ∧ (∀ b ∈ Fo, w1.heap.size ≤ b) ∧ w1.heap.size ≤ go ∧ go < wx.heap.size ∧ ∃ y, wx = ext w1 y)
    case first =>
      go_region_held3 (fun w' => (∀ a : Addr, a.block < w1.heap.size → w'.cell? a = w1.cell? a) ∧ ∃ y, w' = ext w1 y) (first | exact heldE (by refine x'z ?_; repeat (with_reducible (first | exact x'a _ _ | exact x'b _ | exact x'c (by assumption) | refine x'd ?_ (by assumption) | refine x'e ?_ _ | refine x'f ?_ _ | refine x'g ?_ | refine x'h ?_ ?_ _ | refine x'i ?_ _ | refine x'j ?_ | refine x'k ?_ _ | refine x'l ?_ _ _ | refine x'm ?_ | assumption | (refine x'n ?_; omega) | omega)))) (first
        | (go_at_call 34; refine (specJoinTreeRoot_any (by rw [HPN.out]; omega) (HPT.out.toExt (trans_ext hxw1 (by refine x'z ?_; repeat (with_reducible (first | exact x'a _ _ | exact x'b _ | exact x'c (by assumption) | refine x'd ?_ (by assumption) | refine x'e ?_ _ | refine x'f ?_ _ | refine x'g ?_ | refine x'h ?_ ?_ _ | refine x'i ?_ _ | refine x'j ?_ | refine x'k ?_ _ | refine x'l ?_ _ _ | refine x'm ?_ | assumption | (refine x'n ?_; omega) | omega)))))).mono ?_; rintro e w5 ⟨rfl, hx5⟩; rw [HRT.out])
        | (go_at_call 33; refine (ordL_any (by rw [HPN.out]; omega) HORD.out (HPT.out.toExt (trans_ext hxw1 (by refine x'z ?_; repeat (with_reducible (first | exact x'a _ _ | exact x'b _ | exact x'c (by assumption) | refine x'd ?_ (by assumption) | refine x'e ?_ _ | refine x'f ?_ _ | refine x'g ?_ | refine x'h ?_ ?_ _ | refine x'i ?_ _ | refine x'j ?_ | refine x'k ?_ _ | refine x'l ?_ _ _ | refine x'm ?_ | assumption | (refine x'n ?_; omega) | omega)))))).mono ?_; rintro e w6 ⟨v6, F6, rfl, hx6, hS6, hF6⟩; rw [HOE.out] at hS6))
      all_goals
        obtain ⟨go, co, hvo, hgoF, _, _⟩ := hS6.block (by intro h; have h2 := HUL.out; rw [h] at h2; simp at h2; omega)
        rw [HUL.out] at hvo
        subst hvo
        have hF9 : ∀ b ∈ F6, w1.heap.size ≤ b := fun b hb => Nat.le_trans (size_of_ext (by refine x'z ?_; repeat (with_reducible (first | exact x'a _ _ | exact x'b _ | exact x'c (by assumption) | refine x'd ?_ (by assumption) | refine x'e ?_ _ | refine x'f ?_ _ | refine x'g ?_ | refine x'h ?_ ?_ _ | refine x'i ?_ _ | refine x'j ?_ | refine x'k ?_ _ | refine x'l ?_ _ _ | refine x'm ?_ | assumption | (refine x'n ?_; omega) | omega)))) (hF6 b hb)
        have hgl := hS6.lt go hgoF
        go_wp2_with fail
        go_meet
        exact ⟨go, co, F6, rfl, hS6, hF9, hF9 go hgoF, hgl, (by refine x'z ?_; repeat (with_reducible (first | exact x'a _ _ | exact x'b _ | exact x'c (by assumption) | refine x'd ?_ (by assumption) | refine x'e ?_ _ | refine x'f ?_ _ | refine x'g ?_ | refine x'h ?_ ?_ _ | refine x'i ?_ _ | refine x'j ?_ | refine x'k ?_ _ | refine x'l ?_ _ _ | refine x'm ?_ | assumption | (refine x'n ?_; omega) | omega)))⟩
    obtain ⟨go, co, Fo, rfl, hSo, hFo, hgow, hgo9, hx9⟩ := hcut
    obtain ⟨w9, rfl⟩ : ∃ W, W = wc := ⟨_, rfl⟩
    have HLO := Lib.hid (show o.length = n from HUL.out)
    have HSO := Lib.hid hSo
    have HFO := Lib.hid (show ∀ b ∈ Fo, b ≠ ga from fun b hb e => by have := hFo b hb; omega)
    have HSA := Lib.hid (HS1.out.toExt hx9)
    have HX9 := Lib.hid (trans_ext hx1 hx9)
    have hz9 := size_of_ext hx9
    clear hSo hFo lt1 r01 ft1 HS1 hx9
    go_wp2_with fail
    go_loopw [11] (fun i wr => ∃ (k : Nat) (ds : List VRd) (F : List Nat), i = .int .i64 k ∧ k + 1 ≤ n ∧ Hid (SV 69 3 sVR wr (.slice (some ⟨ga, 0, none⟩) n c8) ds F) ∧ Hid (joinG (prs ps (o.take k)) D1 = some ds) ∧ Hid F.Nodup ∧ Hid (∀ b ∈ F, W.heap.size ≤ b) ∧ Hid (Chg [ga] w9 wr)) (fun i _ => n - (intOf i).toNat)
    case atStart => exact ⟨0, D1, F1, rfl, by omega, HSA, Lib.hid rfl, HN1, HF1, Lib.hid (Chg.refl _ _)⟩
    case round =>
      obtain ⟨k, ds, F, rfl, hk, HS, HG, HN, HF, HC⟩ := hrel
      have hyr : ∃ y, wr = ext W y := HC.out.isExt HX9.out (by simp; exact hgaW)
      have hzr := HC.out.size
      have hzW := size_of_ext hyr
      obtain ⟨lt, r0, ft⟩ := bx1 (TW.toExt hyr)
      have HSOr := Lib.hid (HSO.out.chg HC.out (fun b hb h => HFO.out b hb (List.mem_singleton.1 h)))
      by_cases hlt1 : k + 1 < n
      · have hlt : k < n := by omega
        have hkc : (k : Int) < (n : Int) - 1 := by omega
        have cok := cells_of HSOr.out (k := k) (by rw [HLO.out]; omega)
        obtain ⟨hi0, hi1⟩ := HUI.out (o.getD k 0) (mem_getD (by rw [HLO.out]; omega))
        rw [HPN.out] at hi1
        obtain ⟨i, hi⟩ : ∃ i : Nat, o.getD k 0 = (i : Int) := ⟨(o.getD k 0).toNat, by omega⟩
        have hp0 : 0 ≤ ps.getD i 0 := by
          have h9 := HPO.out (o.getD k 0) (mem_takeD (by omega) (by rw [HLO.out]; omega))
          rw [hi, Int.toNat_natCast] at h9
          exact h9
        rw [hi] at cok hi0 hi1
        have hcl : i < n := by omega
        have hips : i < ps.length := by rw [HPN.out]; exact hcl
        have hoi : o[k]'(by rw [HLO.out]; omega) = (i : Int) := by rw [← hi, getDl _ _ (show k < o.length by rw [HLO.out]; omega)]
        obtain ⟨hbt, cps⟩ := (HPT.out.toExt (trans_ext xW hyr)).atJ (k := i) (by rw [HPN.out]; exact hcl)
        obtain ⟨p, hp⟩ : ∃ p : Nat, ps.getD i 0 = (p : Int) := ⟨(ps.getD i 0).toNat, by omega⟩
        have hil : p < n := by have h9 := HPI.out (ps.getD i 0) (mem_getD (by rw [HPN.out]; exact hcl)); rw [hp, HPN.out] at h9; omega
        rw [hp] at cps
        have HPP := Lib.hid hp
        have hst := prs_step (ps := ps) (by rw [HLO.out]; omega) hoi hp
        have hgor : go < wr.heap.size := by omega
        have HDL := Lib.hid (show ds.length = n by have h := joinG_len HG.out; rw [HLD1.out] at h; exact h)
        have HOK := Lib.hid (joinG_ok HOKD.out HG.out)
        obtain ⟨oj, hoj⟩ : ∃ x, joinR (ds.getD p zV) (ds.getD i zV) = x := ⟨_, rfl⟩
        have HSN := Lib.hid (fun (h : oj = none) => show joinG (prs ps o) D1 = none from by
          obtain ⟨rr, hrr⟩ := prs_rest (ps := ps) (o := o) (k := k + 1)
          exact natJ_none (c := i) (p := p) HG.out (by rw [hoj, h]) (r := rr) (by rw [hrr, hst]))
        have HSS := Lib.hid (fun x (h : oj = some x) => show joinG (prs ps (o.take (k + 1))) D1 = some (ds.set p x) from by
          rw [hst]
          exact natJ_some HG.out (by rw [hoj, h]))
        obtain ⟨Ai, ai, Bi, bi, ci0, ci1, ci2, hvi⟩ := vr_at HS.out HN.out (k := p) (by rw [HDL.out]; omega)
        obtain ⟨Ac, ac, Bc, bc, cc0, cc1, cc2, hvc⟩ := vr_at HS.out HN.out (k := i) (by rw [HDL.out]; omega)
        have hbi := vrok_bd (HOK.out.get (k := p) (by rw [HDL.out]; omega))
        have hbc := vrok_bd (HOK.out.get (k := i) (by rw [HDL.out]; omega))
        rw [← getDl _ zV (show p < ds.length by rw [HDL.out]; omega)] at hbi
        rw [← getDl _ zV (show i < ds.length by rw [HDL.out]; omega)] at hbc
        have hgar := (vr_cell HS.out HDL.out (k := i) (by omega)).2.2.2
        obtain ⟨di, hdi⟩ : ∃ x, ds.getD p zV = x := ⟨_, rfl⟩
        obtain ⟨dc, hdc⟩ : ∃ x, ds.getD i zV = x := ⟨_, rfl⟩
        rw [hdi] at ci0 ci1 ci2 hvi hbi hoj
        rw [hdc] at cc0 cc1 cc2 hvc hbc hoj
        have HOJ := Lib.hid hoj
        have HVI := Lib.hid hvi
        have HVC := Lib.hid hvc
        have HBI := Lib.hid hbi
        have HBC := Lib.hid hbc
        clear hoj hvi hvc hbi hbc hdi hdc hst hi hi0 hi1 hp hoi hp0
        go_upto_region 8 with fail
        go_cut [12, 13] (fun va vb wx => CutK oj wr va vb wx)
        case first =>
          go_region_held3 (fun w' => (∀ a : Addr, a.block < wr.heap.size → w'.cell? a = wr.cell? a) ∧ ∃ y, w' = ext wr y) (first | exact heldE (by refine x'z ?_; repeat (with_reducible (first | exact x'a _ _ | exact x'b _ | exact x'c (by assumption) | refine x'd ?_ (by assumption) | refine x'e ?_ _ | refine x'f ?_ _ | refine x'g ?_ | refine x'h ?_ ?_ _ | refine x'i ?_ _ | refine x'j ?_ | refine x'k ?_ _ | refine x'l ?_ _ _ | refine x'm ?_ | assumption | (refine x'n ?_; omega) | omega)))) ((go_at_call 53; refine (specNaturalJoin_any HBI.out (VD.toExt HVI.out (by refine x'z ?_; repeat (with_reducible (first | exact x'a _ _ | exact x'b _ | exact x'c (by assumption) | refine x'd ?_ (by assumption) | refine x'e ?_ _ | refine x'f ?_ _ | refine x'g ?_ | refine x'h ?_ ?_ _ | refine x'i ?_ _ | refine x'j ?_ | refine x'k ?_ _ | refine x'l ?_ _ _ | refine x'm ?_ | assumption | (refine x'n ?_; omega) | omega)))) HBC.out (VD.toExt HVC.out (by refine x'z ?_; repeat (with_reducible (first | exact x'a _ _ | exact x'b _ | exact x'c (by assumption) | refine x'd ?_ (by assumption) | refine x'e ?_ _ | refine x'f ?_ _ | refine x'g ?_ | refine x'h ?_ ?_ _ | refine x'i ?_ _ | refine x'j ?_ | refine x'k ?_ _ | refine x'l ?_ _ _ | refine x'm ?_ | assumption | (refine x'n ?_; omega) | omega))))).mono ?_; rw [HOJ.out]; rintro e w5 ⟨u0, u1, u2, F5, rfl, hx5, hS5, hN5, hF5⟩; obtain ⟨A5, a5, B5, b5, rfl, rfl, rfl⟩ := sVR_form hS5; have hz5 : wr.heap.size ≤ w5.heap.size := size_of_ext (by refine x'z ?_; repeat (with_reducible (first | exact x'a _ _ | exact x'b _ | exact x'c (by assumption) | refine x'd ?_ (by assumption) | refine x'e ?_ _ | refine x'f ?_ _ | refine x'g ?_ | refine x'h ?_ ?_ _ | refine x'i ?_ _ | refine x'j ?_ | refine x'k ?_ _ | refine x'l ?_ _ _ | refine x'm ?_ | assumption | (refine x'n ?_; omega) | omega))); (first | (have L5 : BoxAt w5 wr.heap.size #[.slice none 0 0, .int .i64 0, .slice none 0 0] := BoxAt.toExt (BoxAt.new wr _ _) hx5; obtain ⟨z1, z2, z3, z4, z5⟩ := box3 L5) | (have L5 : BoxAt w5 wr.heap.size #[.slice none 0 0, .int .i64 0, .slice none 0 0] := BoxAt.toExt (BoxAt.new wr.drew _ _) hx5; obtain ⟨z1, z2, z3, z4, z5⟩ := box3 L5) | (have L5 : BoxAt w5 wr.heap.size #[.slice none 0 0, .int .i64 0, .slice none 0 0] := BoxAt.toExt (BoxAt.new wr _ _).drew hx5; obtain ⟨z1, z2, z3, z4, z5⟩ := box3 L5) | skip)))
          all_goals
            go_wp2_with fail
            go_meet
            have hdr : wr.drew.heap.size = wr.heap.size := rfl
            have hG5 : ∀ x ∈ F5, wr.heap.size ≤ x := fun x hx => Nat.le_trans (size_of_ext (by refine x'z ?_; repeat (with_reducible (first | exact x'a _ _ | exact x'b _ | exact x'c (by assumption) | refine x'd ?_ (by assumption) | refine x'e ?_ _ | refine x'f ?_ _ | refine x'g ?_ | refine x'h ?_ ?_ _ | refine x'i ?_ _ | refine x'j ?_ | refine x'k ?_ _ | refine x'l ?_ _ _ | refine x'm ?_ | assumption | (refine x'n ?_; omega) | omega)))) (hF5 x hx)
            show CutK oj wr _ _ _
            first
              | exact ⟨w5.heap.size, A5, a5, B5, b5, F5, rfl, rfl, BoxAt.new _ _ _, OD.toExt hS5 (alloc_ext _ _), hN5, hG5, hz5, (by refine x'z ?_; repeat (with_reducible (first | exact x'a _ _ | exact x'b _ | exact x'c (by assumption) | refine x'd ?_ (by assumption) | refine x'e ?_ _ | refine x'f ?_ _ | refine x'g ?_ | refine x'h ?_ ?_ _ | refine x'i ?_ _ | refine x'j ?_ | refine x'k ?_ _ | refine x'l ?_ _ _ | refine x'm ?_ | assumption | (refine x'n ?_; omega) | omega)))⟩
              | exact ⟨wr.heap.size, A5, a5, B5, b5, F5, rfl, rfl, (by repeat (with_reducible (first | assumption | exact BoxAt.new _ _ _ | apply BoxAt.set3 | refine BoxAt.set3' ?_ (by omega) | apply BoxAt.set30 | apply BoxAt.set31 | apply BoxAt.set32 | apply BoxAt.set2 | refine BoxAt.set2' ?_ (by omega) | apply BoxAt.setP0 | apply BoxAt.setP1 | refine BoxAt.setO ?_ (by omega) | refine BoxAt.alloc ?_ _ | refine BoxAt.drew ?_ | refine BoxAt.toExt ?_ (by assumption)))), OD.chg (G := [wr.heap.size]) hS5 (by repeat (with_reducible (first | exact Chg.refl _ _ | refine Chg.trans0 ?_ (by assumption) | refine Chg.extS ?_ _ | refine Chg.alloc ?_ _ | refine Chg.drew ?_ | refine Chg.setCell ?_ (.inl (by simp)) _))) (fun x hx hm => by have := hF5 x hx; rw [List.mem_singleton.1 hm] at this; first | omega | (rw [World.size_alloc] at this; omega) | (simp only [World.drew, World.size_alloc] at this; omega)), hN5, hG5, Nat.le_refl _, (by refine x'z ?_; repeat (with_reducible (first | exact x'a _ _ | exact x'b _ | exact x'c (by assumption) | refine x'd ?_ (by assumption) | refine x'e ?_ _ | refine x'f ?_ _ | refine x'g ?_ | refine x'h ?_ ?_ _ | refine x'i ?_ _ | refine x'j ?_ | refine x'k ?_ _ | refine x'l ?_ _ _ | refine x'm ?_ | assumption | (refine x'n ?_; omega) | omega)))⟩
        obtain ⟨b14, A14, a14, B14, b2, F14, rfl, rfl, hB14, hS14, hN14, hF14, hb14, hx14⟩ := hcut
        obtain ⟨w14, rfl⟩ : ∃ W, W = wc := ⟨_, rfl⟩
        have hyr14 := trans_ext hyr hx14
        cases oj with
        | none =>
          have HZN := Lib.hid (show evT d q ps = none by rw [← HEV.out, HSN.out rfl])
          obtain ⟨lr1, r10, r11, fr1⟩ := bx2 (RW.toExt hyr14)
          clear hS14 hB14
          go_wp2_with fail
          refine bodyPost_ret (v := .tuple #[.agg #[.int .i64 0, .slice none 0 0], .bool false]) (by simp [results, Tryz.results22, go_sem, *]) rfl (relOut_none HZN.out rfl (by refine x'z ?_; repeat (with_reducible (first | exact x'a _ _ | exact x'b _ | exact x'c (by assumption) | refine x'd ?_ (by assumption) | refine x'e ?_ _ | refine x'f ?_ _ | refine x'g ?_ | refine x'h ?_ ?_ _ | refine x'i ?_ _ | refine x'j ?_ | refine x'k ?_ _ | refine x'l ?_ _ _ | refine x'm ?_ | assumption | (refine x'n ?_; omega) | omega))))
        | some x =>
          simp only [Option.getD_some, Option.isSome_some] at hB14 hS14 ⊢
          obtain ⟨l14, c140, c141, c142, f14⟩ := box3 hB14
          obtain ⟨⟨⟨y0, hu0⟩, hf0⟩, ⟨⟨y1, hu1⟩, hf1⟩, ⟨⟨y2, hu2⟩, hf2⟩, hg14⟩ := vr_cell (HS.out.toExt hx14) HDL.out (k := p) (by omega)
          obtain ⟨F9, hS9, hC9, hN9, hF9⟩ := semi_put (W := W) (p := p) HS.out HDL.out HN.out (by omega) (trans_ext hx14 (drew_ext w14)) (OD.toExt hS14 (drew_ext w14)) hN14 hF14 HF.out hzW
          have HS9 := Lib.hid hS9
          have HG9 := Lib.hid (HSS.out x rfl)
          have HN9 := Lib.hid hN9
          have HF9 := Lib.hid hF9
          have HC9 := Lib.hid (HC.out.trans hC9 (fun x hx => .inl hx))
          have cok4 := cell_x cok hgor hx14
          have hgo4 := lt_x hgor hx14
          obtain ⟨hbt4, cps4⟩ := (HPT.out.toExt (trans_ext xW hyr14)).atJ (k := i) (by rw [HPN.out]; exact hcl)
          rw [HPP.out] at cps4
          obtain ⟨lt4, r04, ft4⟩ := bx1 (TW.toExt hyr14)
          have n1 : go ≠ ga := by omega
          have n2 : bt ≠ ga := by have h9 := (HPT.out.atJ (k := i) (by rw [HPN.out]; exact hcl)).1; have := size_of_ext xW; omega
          have n3 : w.heap.size + 1 + 1 ≠ ga := by have h9 := TW.1; omega
          have n4 : b14 ≠ ga := by omega
          clear hS9 hN9 hF9 hC9 hS14 hB14 HS
          go_upto_region 11 with fail
          go_region_held3 (fun w' => ∀ b o : Nat, b < w14.heap.size → b ≠ ga → w'.cell? ⟨b, o, none⟩ = w14.cell? ⟨b, o, none⟩) (exact heldG (by repeat (with_reducible (first | exact Chg.refl _ _ | refine Chg.drew ?_ | refine Chg.setCell ?_ (.inl (by simp)) _)))) (fail)
          all_goals
            go_wp2_with fail
            exact ⟨⟨k + 1, ds.set p x, F9, by go_num, by omega, HS9, HG9, HN9, HF9, HC9⟩, by simp [intOf]; omega⟩
      · obtain ⟨m0, hm0⟩ : ∃ m0, n = m0 + 1 := ⟨n - 1, by omega⟩
        have e0 : k = m0 := by omega
        have hroot : ps.getD (o.getD k 0).toNat 0 = -1 := by rw [e0]; have h := HRL.out; rw [hm0] at h; exact h
        obtain ⟨hi0, hi1⟩ := HUI.out (o.getD k 0) (mem_getD (by rw [HLO.out]; omega))
        obtain ⟨i, hi⟩ : ∃ i : Nat, o.getD k 0 = (i : Int) := ⟨(o.getD k 0).toNat, by omega⟩
        have hoi : o[k]'(by rw [HLO.out]; omega) = (i : Int) := by rw [← hi, getDl _ _ (show k < o.length by rw [HLO.out]; omega)]
        rw [hi, Int.toNat_natCast] at hroot
        have hg := HG.out
        rw [prs_last (by rw [HLO.out]; omega) hoi (by rw [hroot]; omega)] at hg
        obtain ⟨hj1, hj2, hj3, hj4⟩ := HJN.out ds hg
        have hev := HEV.out
        rw [hg] at hev
        have hev : projR (ds.getD r zV).2 q.2.2 = evT d q ps := hev
        have HDL := Lib.hid (show ds.length = n by have h := joinG_len HG.out; rw [HLD1.out] at h; exact h)
        obtain ⟨Ar, ar, Br, br, cr0, cr1, cr2, hvr⟩ := vr_at HS.out HN.out (k := r) (by rw [HDL.out]; omega)
        have hgar := (vr_cell HS.out HDL.out (k := r) (by omega)).2.2.2
        obtain ⟨dr, hdr⟩ : ∃ x, ds.getD r zV = x := ⟨_, rfl⟩
        rw [hdr] at cr0 cr1 cr2 hvr hj2 hj3 hj4 hev
        have HRV := Lib.hid (vII_get (vRel_get (vVR_get hvr).2.1).2).2
        obtain ⟨pr, hpr⟩ : ∃ p, projR dr.2 q.2.2 = p := ⟨_, rfl⟩
        have HPR := Lib.hid (show projR (dr.2.1, dr.2.2) q.2.2 = pr from hpr)
        have HZ := Lib.hid (show evT d q ps = pr by rw [← hev, hpr])
        have hir : -1000000000 ≤ dr.2.1 ∧ dr.2.1 ≤ 1000000000 := by rw [hj2]; exact hz5
        have hrl : dr.2.2.length ≤ 1000000000 := by omega
        have HRX := Lib.hid (fun (x : List Int) (hx : x ∈ dr.2.2) => show x.length ≤ 1000000000 by have := hj4 x hx; omega)
        have HGO := Lib.hid (hgo.toExt (trans_ext xW hyr))
        have hwr := trans_ext xW hyr
        obtain ⟨lq, q0, q1, q2, fq⟩ := box3 (QW.toExt hyr)
        have hnk : ¬ ((k : Int) < (n : Int) - 1) := by omega
        clear e0 hm0 hg hj1 hj2 hj3 hj4 hev hdr hvr hpr HS HG HEV HJN hroot hi hi0 hi1 hoi
        go_upto_region 12 with fail
        go_cut [14, 15] (fun va vb wx => CutQ pr wr va vb wx)
        case first =>
          go_region_held3 (fun w' => (∀ a : Addr, a.block < wr.heap.size → w'.cell? a = wr.cell? a) ∧ ∃ y, w' = ext wr y) (first | exact heldE (by refine x'z ?_; repeat (with_reducible (first | exact x'a _ _ | exact x'b _ | exact x'c (by assumption) | refine x'd ?_ (by assumption) | refine x'e ?_ _ | refine x'f ?_ _ | refine x'g ?_ | refine x'h ?_ ?_ _ | refine x'i ?_ _ | refine x'j ?_ | refine x'k ?_ _ | refine x'l ?_ _ _ | refine x'm ?_ | assumption | (refine x'n ?_; omega) | omega)))) (first
            | (go_at_call 34; refine (specJoinTreeRoot_any (by rw [HPN.out]; omega) (HPT.out.toExt (trans_ext hwr (by refine x'z ?_; repeat (with_reducible (first | exact x'a _ _ | exact x'b _ | exact x'c (by assumption) | refine x'd ?_ (by assumption) | refine x'e ?_ _ | refine x'f ?_ _ | refine x'g ?_ | refine x'h ?_ ?_ _ | refine x'i ?_ _ | refine x'j ?_ | refine x'k ?_ _ | refine x'l ?_ _ _ | refine x'm ?_ | assumption | (refine x'n ?_; omega) | omega)))))).mono ?_; rintro e w5 ⟨rfl, hx5⟩; rw [HRT.out]; have hz5 : wr.heap.size ≤ w5.heap.size := size_of_ext (by refine x'z ?_; repeat (with_reducible (first | exact x'a _ _ | exact x'b _ | exact x'c (by assumption) | refine x'd ?_ (by assumption) | refine x'e ?_ _ | refine x'f ?_ _ | refine x'g ?_ | refine x'h ?_ ?_ _ | refine x'i ?_ _ | refine x'j ?_ | refine x'k ?_ _ | refine x'l ?_ _ _ | refine x'm ?_ | assumption | (refine x'n ?_; omega) | omega))); (first | (have L5 : BoxAt w5 wr.heap.size #[.int .i64 0, .slice none 0 0] := BoxAt.toExt (BoxAt.new wr _ _) hx5; obtain ⟨z1, z2, z3, z4⟩ := bx2 L5) | (have L5 : BoxAt w5 wr.heap.size #[.int .i64 0, .slice none 0 0] := BoxAt.toExt (BoxAt.new wr.drew _ _) hx5; obtain ⟨z1, z2, z3, z4⟩ := bx2 L5) | (have L5 : BoxAt w5 wr.heap.size #[.int .i64 0, .slice none 0 0] := BoxAt.toExt (BoxAt.new wr _ _).drew hx5; obtain ⟨z1, z2, z3, z4⟩ := bx2 L5) | skip))
            | (go_at_call 54; refine (specProject_any hir hrl HRX.out (HRV.out.toExt (by refine x'z ?_; repeat (with_reducible (first | exact x'a _ _ | exact x'b _ | exact x'c (by assumption) | refine x'd ?_ (by assumption) | refine x'e ?_ _ | refine x'f ?_ _ | refine x'g ?_ | refine x'h ?_ ?_ _ | refine x'i ?_ _ | refine x'j ?_ | refine x'k ?_ _ | refine x'l ?_ _ _ | refine x'm ?_ | assumption | (refine x'n ?_; omega) | omega)))) hgl (HGO.out.toExt (by refine x'z ?_; repeat (with_reducible (first | exact x'a _ _ | exact x'b _ | exact x'c (by assumption) | refine x'd ?_ (by assumption) | refine x'e ?_ _ | refine x'f ?_ _ | refine x'g ?_ | refine x'h ?_ ?_ _ | refine x'i ?_ _ | refine x'j ?_ | refine x'k ?_ _ | refine x'l ?_ _ _ | refine x'm ?_ | assumption | (refine x'n ?_; omega) | omega))))).mono ?_; rw [HPR.out]; rintro e w8 ⟨u0, u1, F8, rfl, hx8, hS8, hN8, hF8⟩; have hG8 : ∀ x ∈ F8, w5.heap.size ≤ x := (fun x hx => Nat.le_trans (size_of_ext (by refine x'z ?_; repeat (with_reducible (first | exact x'a _ _ | exact x'b _ | exact x'c (by assumption) | refine x'd ?_ (by assumption) | refine x'e ?_ _ | refine x'f ?_ _ | refine x'g ?_ | refine x'h ?_ ?_ _ | refine x'i ?_ _ | refine x'j ?_ | refine x'k ?_ _ | refine x'l ?_ _ _ | refine x'm ?_ | assumption | (refine x'n ?_; omega) | omega)))) (hF8 x hx)); obtain ⟨A8, a8, rfl, rfl, _⟩ := sRel_form hS8; have hz8 : w5.heap.size ≤ w8.heap.size := size_of_ext (by refine x'z ?_; repeat (with_reducible (first | exact x'a _ _ | exact x'b _ | exact x'c (by assumption) | refine x'd ?_ (by assumption) | refine x'e ?_ _ | refine x'f ?_ _ | refine x'g ?_ | refine x'h ?_ ?_ _ | refine x'i ?_ _ | refine x'j ?_ | refine x'k ?_ _ | refine x'l ?_ _ _ | refine x'm ?_ | assumption | (refine x'n ?_; omega) | omega))); (first | (have L3 : BoxAt w8 wr.heap.size #[.int .i64 0, .slice none 0 0] := BoxAt.toExt L5 hx8; obtain ⟨z1, z2, z3, z4⟩ := bx2 L3) | skip); (first | (have M3 : BoxAt w8 w5.heap.size #[.int .i64 0, .slice none 0 0] := BoxAt.toExt (BoxAt.new w5 _ _) hx8; obtain ⟨y1, y2, y3, y4⟩ := bx2 M3) | (have M3 : BoxAt w8 w5.heap.size #[.int .i64 0, .slice none 0 0] := BoxAt.toExt (BoxAt.new w5.drew _ _) hx8; obtain ⟨y1, y2, y3, y4⟩ := bx2 M3) | (have M3 : BoxAt w8 w5.heap.size #[.int .i64 0, .slice none 0 0] := BoxAt.toExt (BoxAt.new w5 _ _).drew hx8; obtain ⟨y1, y2, y3, y4⟩ := bx2 M3) | skip)))
          all_goals
            go_wp2_with fail
            go_meet
            have hdr : wr.drew.heap.size = wr.heap.size := rfl
            have hG9 : ∀ x ∈ F8, wr.heap.size ≤ x := fun x hx => Nat.le_trans hz5 (hG8 x hx)
            show CutQ pr wr _ _ _
            first
              | exact ⟨w8.heap.size, A8, a8, F8, rfl, rfl, BoxAt.new _ _ _, OD.toExt hS8 (alloc_ext _ _), hN8, hG9, (by refine x'z ?_; repeat (with_reducible (first | exact x'a _ _ | exact x'b _ | exact x'c (by assumption) | refine x'd ?_ (by assumption) | refine x'e ?_ _ | refine x'f ?_ _ | refine x'g ?_ | refine x'h ?_ ?_ _ | refine x'i ?_ _ | refine x'j ?_ | refine x'k ?_ _ | refine x'l ?_ _ _ | refine x'm ?_ | assumption | (refine x'n ?_; omega) | omega)))⟩
              | exact ⟨wr.heap.size, A8, a8, F8, rfl, rfl, (by repeat (with_reducible (first | assumption | exact BoxAt.new _ _ _ | apply BoxAt.set2 | refine BoxAt.set2' ?_ (by omega) | apply BoxAt.setP0 | apply BoxAt.setP1 | refine BoxAt.setO ?_ (by omega) | refine BoxAt.alloc ?_ _ | refine BoxAt.drew ?_ | refine BoxAt.toExt ?_ (by assumption)))), OD.chg (G := [wr.heap.size]) hS8 (by repeat (with_reducible (first | exact Chg.refl _ _ | refine Chg.trans0 ?_ (by assumption) | refine Chg.extS ?_ _ | refine Chg.alloc ?_ _ | refine Chg.drew ?_ | refine Chg.setCell ?_ (.inl (by simp)) _))) (fun x hx hm => by have := hG8 x hx; have h9 := L5.1; rw [List.mem_singleton.1 hm] at this; omega), hN8, hG9, (by refine x'z ?_; repeat (with_reducible (first | exact x'a _ _ | exact x'b _ | exact x'c (by assumption) | refine x'd ?_ (by assumption) | refine x'e ?_ _ | refine x'f ?_ _ | refine x'g ?_ | refine x'h ?_ ?_ _ | refine x'i ?_ _ | refine x'j ?_ | refine x'k ?_ _ | refine x'l ?_ _ _ | refine x'm ?_ | assumption | (refine x'n ?_; omega) | omega)))⟩
              | exact ⟨w5.heap.size, A8, a8, F8, rfl, rfl, (by repeat (with_reducible (first | assumption | exact BoxAt.new _ _ _ | apply BoxAt.set2 | refine BoxAt.set2' ?_ (by omega) | apply BoxAt.setP0 | apply BoxAt.setP1 | refine BoxAt.setO ?_ (by omega) | refine BoxAt.alloc ?_ _ | refine BoxAt.drew ?_ | refine BoxAt.toExt ?_ (by assumption)))), OD.chg (G := [w5.heap.size]) hS8 (by repeat (with_reducible (first | exact Chg.refl _ _ | refine Chg.trans0 ?_ (by assumption) | refine Chg.extS ?_ _ | refine Chg.alloc ?_ _ | refine Chg.drew ?_ | refine Chg.setCell ?_ (.inl (by simp)) _))) (fun x hx hm => by have := hF8 x hx; rw [List.mem_singleton.1 hm] at this; first | omega | (rw [World.size_alloc] at this; omega) | (simp only [World.drew, World.size_alloc] at this; omega)), hN8, hG9, (by refine x'z ?_; repeat (with_reducible (first | exact x'a _ _ | exact x'b _ | exact x'c (by assumption) | refine x'd ?_ (by assumption) | refine x'e ?_ _ | refine x'f ?_ _ | refine x'g ?_ | refine x'h ?_ ?_ _ | refine x'i ?_ _ | refine x'j ?_ | refine x'k ?_ _ | refine x'l ?_ _ _ | refine x'm ?_ | assumption | (refine x'n ?_; omega) | omega)))⟩
        obtain ⟨b14, A14, a14, F14, rfl, rfl, hB14, hS14, hN14, hF14, hx14⟩ := hcut
        obtain ⟨w14, rfl⟩ : ∃ W, W = wc := ⟨_, rfl⟩
        obtain ⟨l14, c140, c141, f14⟩ := bx2 hB14
        obtain ⟨lr, rr0, rr1, fr⟩ := bx2 (RW.toExt (trans_ext hyr hx14))
        have hw14 := trans_ext hwr hx14
        have hzz := size_of_ext hwr
        have HS14 := Lib.hid hS14
        clear hS14 hB14
        go_wp2_with fail
        refine bodyPost_ret (v := .tuple #[.agg #[.int .i64 (pr.getD (0, [])).1, .slice A14 (pr.getD (0, [])).2.length a14], .bool pr.isSome]) (by simp [results, Tryz.results22, go_sem, *]) rfl ⟨_, _, F14, by rw [HZ.out], (by refine x'z ?_; repeat (with_reducible (first | exact x'a _ _ | exact x'b _ | exact x'c (by assumption) | refine x'd ?_ (by assumption) | refine x'e ?_ _ | refine x'f ?_ _ | refine x'g ?_ | refine x'h ?_ ?_ _ | refine x'i ?_ _ | refine x'j ?_ | refine x'k ?_ _ | refine x'l ?_ _ _ | refine x'm ?_ | assumption | (refine x'n ?_; omega) | omega))), ?_, hN14, fun b hb => ?_⟩
        · rw [HZ.out]
          refine OD.chg (G := [w.heap.size + 1 + 1 + 1]) HS14.out (by repeat (with_reducible (first | exact Chg.refl _ _ | refine Chg.trans0 ?_ (by assumption) | refine Chg.extS ?_ _ | refine Chg.alloc ?_ _ | refine Chg.drew ?_ | refine Chg.setCell ?_ (.inl (by simp)) _))) ?_
          intro b hb h
          have := hF14 b hb
          rw [List.mem_singleton.1 h] at this
          omega
        · have := hF14 b hb
          omega
end Go.Proofs.YtfigcfajkilhiaaGreat
