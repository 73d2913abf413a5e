/- Contracts of functions that the statement reaches. -/
import Derived.Deep.RegionLaw
import Derived.Deep.DrawnRows
import Derived.Deep.DeepCutAuto
import Derived.Test.YtfigcfajkilhiaaJ15
import Derived.Test.YtfigcfajkilhiaaJ12
import Derived.Test.YtfigcfajkilhiaaJ11
import Derived.Test.YtfigcfajkilhiaaJ10
import Derived.Test.YtfigcfajkilhiaaJ18
import Derived.Test.YtfigcfajkilhiaaJ17
namespace Go.Proofs.Ytfigcfajkilhiaa
open Go.RowKit
set_option maxRecDepth 100000 in
set_option maxHeartbeats 16000000 in
theorem LookupRelation_any {A : Option Addr} {c : Nat} {d : Dbd} {name : ByteArray} {w : World} (hd : WDb d) (h1 : RV 3 vTb w A d) :
    Calls Try.prog 147 #[.agg #[.slice A d.length c], .string name] w (RelOut (lookD d name) w) := by
  have HD := Lib.hid hd
  have hn := hd.n
  obtain ⟨t, ht⟩ : ∃ t, dbB d = t := ⟨_, rfl⟩
  have HT := Lib.hid ht
  clear hd ht
  go_enter Try.func147, Try.ntmps147
  go_upto_region 1 with fail
  refine wp_name ?_
  intro W hW
  have xW : ∃ y, W = ext w y := by rw [hW.out]; exact (by refine x'z ?_; repeat (with_reducible (first | exact x'a _ _ | exact x'b _ | exact x'c (by assumption) | refine x'd ?_ (by assumption) | refine x'e ?_ _ | refine x'f ?_ _ | refine x'g ?_ | refine x'h ?_ ?_ _ | refine x'i ?_ _ | refine x'j ?_ | refine x'k ?_ _ | refine x'l ?_ _ _ | refine x'm ?_ | assumption | (refine x'n ?_; omega) | omega)))
  have PW : BoxAt W w.heap.size #[.slice A d.length c] := by rw [hW.out]; exact (by repeat (with_reducible (first | assumption | exact BoxAt.new _ _ _ | apply BoxAt.set10 | apply BoxAt.set2 | refine BoxAt.set2' ?_ (by omega) | apply BoxAt.setP0 | apply BoxAt.setP1 | refine BoxAt.setO ?_ (by omega) | refine BoxAt.alloc ?_ _ | refine BoxAt.drew ?_ | refine BoxAt.toExt ?_ (by assumption))))
  have RW : BoxAt W (w.heap.size + 1) #[.int .i64 0, .slice none 0 0] := by
    rw [hW.out]
    simpa using BoxAt.new (w.alloc (.cells #[.slice A d.length c] 29)) #[.int .i64 0, .slice none 0 0] 39
  obtain ⟨lp, p0, fp⟩ := bx1 PW
  clear hW
  cases t with
  | false =>
    have HZ := Lib.hid (show lookD d name = none by unfold lookD; rw [HT.out]; rfl)
    go_wp2_with (go_at_call 63; refine (IsValidDatabase_w HD.out (h1.toExt xW)).mono ?_; rintro e w1 ⟨rfl, hx1⟩; rw [HT.out]; obtain ⟨lr1, r10, r11, fr1⟩ := bx2 (RW.toExt hx1))
    refine bodyPost_ret (v := .tuple #[.agg #[.int .i64 0, .slice none 0 0], .bool false]) (by simp [results, Try.results147, go_sem, *]) rfl (relOut_none HZ.out rfl (by refine x'z ?_; repeat (with_reducible (first | exact x'a _ _ | exact x'b _ | exact x'c (by assumption) | refine x'd ?_ (by assumption) | refine x'e ?_ _ | refine x'f ?_ _ | refine x'g ?_ | refine x'h ?_ ?_ _ | refine x'i ?_ _ | refine x'j ?_ | refine x'k ?_ _ | refine x'l ?_ _ _ | refine x'm ?_ | assumption | (refine x'n ?_; omega) | omega))))
  | true =>
    have HL := Lib.hid (show lookD d name = fndD name d by unfold lookD; rw [HT.out]; rfl)
    go_upto_region 2 with (go_at_call 63; refine (IsValidDatabase_w HD.out (h1.toExt xW)).mono ?_; rintro e w1 ⟨rfl, hx1⟩; rw [HT.out])
    have P1 := PW.toExt hx1
    have R1 := RW.toExt hx1
    have xw1 := trans_ext xW hx1
    obtain ⟨lp1, p10, fp1⟩ := bx1 P1
    clear lp p0 fp PW RW
    go_wp2_with fail
    clear lp1 p10 fp1
    go_loopw [13] (fun i wr => ∃ k : Nat, i = .int .i64 k ∧ k ≤ d.length ∧ (∃ y, wr = ext w1 y) ∧ Hid (fndD name (d.drop k) = fndD name d)) (fun i _ => d.length - (intOf i).toNat)
    case atStart => exact ⟨0, rfl, by omega, refl_ext w1, Lib.hid (by simp)⟩
    case round =>
      obtain ⟨k, rfl, hk, hy, Hj⟩ := hrel
      have hyw := trans_ext xw1 hy
      have R2 := R1.toExt hy
      obtain ⟨lr2, r20, r21, fr2⟩ := bx2 R2
      by_cases hlt : k < d.length
      · obtain ⟨b, o, A1, c1, rfl, hb, hc, hc1, hc2, hvx⟩ := (h1.toExt hyw).atT hlt
        have lx2 := HD.out.rn _ (List.getElem_mem hlt)
        have HXL := Lib.hid (HD.out.rl _ (List.getElem_mem hlt))
        have e := Hj.out
        rw [fndD_step hlt] at e
        have HV := Lib.hid (vII_get (vRel_get hvx).2).2
        obtain ⟨x, hx⟩ : ∃ x, d[k] = x := ⟨_, rfl⟩
        rw [hx] at e hc hc1 hc2 lx2 HXL HV
        have hwz := size_of_ext hyw
        clear hx hvx
        by_cases he : x.1 = name
        · have hbb : (x.1.toList == name.toList) = true := by rw [str_beq, decide_eq_true he]
          rw [if_pos he] at e
          have HZ := Lib.hid (show lookD d name = some x.2 by rw [HL.out, ← e])
          clear e he
          go_wp2_with (go_at_call 93; refine (copyRelation_any lx2 HXL.out (HV.out.toExt (by refine x'z ?_; repeat (with_reducible (first | exact x'a _ _ | exact x'b _ | exact x'c (by assumption) | refine x'd ?_ (by assumption) | refine x'e ?_ _ | refine x'f ?_ _ | refine x'g ?_ | refine x'h ?_ ?_ _ | refine x'i ?_ _ | refine x'j ?_ | refine x'k ?_ _ | refine x'l ?_ _ _ | refine x'm ?_ | assumption | (refine x'n ?_; omega) | omega))))).mono ?_; rintro e w9 ⟨u9, v9, F9, rfl, hx9, hS9, hN9, hF9⟩; obtain ⟨A9, c9, rfl, rfl, _⟩ := sRel_form hS9; have R9 : BoxAt w9 (w.heap.size + 1) #[.int .i64 0, .slice none 0 0] := (by repeat (with_reducible (first | assumption | exact BoxAt.new _ _ _ | apply BoxAt.set2 | refine BoxAt.set2' ?_ (by omega) | apply BoxAt.setP0 | apply BoxAt.setP1 | refine BoxAt.setO ?_ (by omega) | refine BoxAt.alloc ?_ _ | refine BoxAt.drew ?_ | refine BoxAt.toExt ?_ (by assumption)))); obtain ⟨lr9, r90, r91, fr9⟩ := bx2 R9)
          refine bodyPost_ret (v := .tuple #[.agg #[.int .i64 x.2.1, .slice A9 x.2.2.length c9], .bool true]) (by simp [results, Try.results147, go_sem, *]) rfl ⟨_, _, F9, by rw [HZ.out]; rfl, (by refine x'z ?_; repeat (with_reducible (first | exact x'a _ _ | exact x'b _ | exact x'c (by assumption) | refine x'd ?_ (by assumption) | refine x'e ?_ _ | refine x'f ?_ _ | refine x'g ?_ | refine x'h ?_ ?_ _ | refine x'i ?_ _ | refine x'j ?_ | refine x'k ?_ _ | refine x'l ?_ _ _ | refine x'm ?_ | assumption | (refine x'n ?_; omega) | omega))), ?_, hN9, ?_⟩
          · rw [HZ.out]
            refine OD.chg (G := [w.heap.size + 1]) hS9 (by repeat (with_reducible (first | exact Chg.refl _ _ | refine Chg.trans0 ?_ (by assumption) | refine Chg.extS ?_ _ | refine Chg.alloc ?_ _ | refine Chg.drew ?_ | refine Chg.setCell ?_ (.inl (by simp)) _))) ?_
            intro b hb h
            have := hF9 b hb
            rw [List.mem_singleton.1 h] at this
            (try simp at this)
            omega
          · intro b hb
            have := hF9 b hb
            (try simp at this)
            omega
        · have hbb : (x.1.toList == name.toList) = false := by rw [str_beq, decide_eq_false he]
          rw [if_neg he] at e
          have HK := Lib.hid e
          clear e he
          go_wp2
          exact ⟨⟨k + 1, by go_num, by omega, (by refine x'z ?_; repeat (with_reducible (first | exact x'a _ _ | exact x'b _ | exact x'c (by assumption) | refine x'd ?_ (by assumption) | refine x'e ?_ _ | refine x'f ?_ _ | refine x'g ?_ | refine x'h ?_ ?_ _ | refine x'i ?_ _ | refine x'j ?_ | refine x'k ?_ _ | refine x'l ?_ _ _ | refine x'm ?_ | assumption | (refine x'n ?_; omega) | omega))), HK⟩, by simp [intOf]; omega⟩
      · have e := Hj.out
        rw [fndD_end hlt] at e
        have HZ := Lib.hid (show lookD d name = none by rw [HL.out, ← e])
        clear e Hj
        go_wp2
        refine bodyPost_ret (v := .tuple #[.agg #[.int .i64 0, .slice none 0 0], .bool false]) (by simp [results, Try.results147, go_sem, *]) rfl (relOut_none HZ.out rfl (by refine x'z ?_; repeat (with_reducible (first | exact x'a _ _ | exact x'b _ | exact x'c (by assumption) | refine x'd ?_ (by assumption) | refine x'e ?_ _ | refine x'f ?_ _ | refine x'g ?_ | refine x'h ?_ ?_ _ | refine x'i ?_ _ | refine x'j ?_ | refine x'k ?_ _ | refine x'l ?_ _ _ | refine x'm ?_ | assumption | (refine x'n ?_; omega) | omega))))
set_option maxRecDepth 100000 in
set_option maxHeartbeats 16000000 in
theorem specLookupRelation_any {A : Option Addr} {c : Nat} {d : Dbd} {name : ByteArray} {w : World} (hd : WDb d) (h1 : RV 3 vTb w A d) :
    Calls Try.prog 71 #[.agg #[.slice A d.length c], .string name] w (RelOut (lookD d name) w) := by
  have HD := Lib.hid hd
  have hn := hd.n
  obtain ⟨t, ht⟩ : ∃ t, dbB d = t := ⟨_, rfl⟩
  have HT := Lib.hid ht
  have HLf := Lib.hid (fun (h : t = false) => show lookD d name = none by unfold lookD; rw [ht, h]; rfl)
  have HLt := Lib.hid (fun (h : t = true) => show lookD d name = fndD name d by unfold lookD; rw [ht, h]; rfl)
  have HLn := Lib.hid (fun (h : fndD name d = none) => show lookD d name = none by unfold lookD; rw [h]; split <;> rfl)
  clear hd ht
  go_enter Try.func71, Try.ntmps71
  go_upto_region 1 with fail
  refine wp_name ?_
  intro W hW
  have xW : ∃ y, W = ext w y := by rw [hW.out]; exact (by refine x'z ?_; repeat (with_reducible (first | exact x'a _ _ | exact x'b _ | exact x'c (by assumption) | refine x'd ?_ (by assumption) | refine x'e ?_ _ | refine x'f ?_ _ | refine x'g ?_ | refine x'h ?_ ?_ _ | refine x'i ?_ _ | refine x'j ?_ | refine x'k ?_ _ | refine x'l ?_ _ _ | refine x'm ?_ | assumption | (refine x'n ?_; omega) | omega)))
  have PW : BoxAt W w.heap.size #[.slice A d.length c] := by rw [hW.out]; exact (by repeat (with_reducible (first | assumption | exact BoxAt.new _ _ _ | apply BoxAt.set10 | apply BoxAt.set2 | refine BoxAt.set2' ?_ (by omega) | apply BoxAt.setP0 | apply BoxAt.setP1 | refine BoxAt.setO ?_ (by omega) | refine BoxAt.alloc ?_ _ | refine BoxAt.drew ?_ | refine BoxAt.toExt ?_ (by assumption))))
  have RW : BoxAt W (w.heap.size + 1) #[.int .i64 0, .slice none 0 0] := by
    rw [hW.out]
    simpa using BoxAt.new (w.alloc (.cells #[.slice A d.length c] 29)) #[.int .i64 0, .slice none 0 0] 39
  clear hW
  go_wp2_with fail
  go_loopw [6] (fun i wr => ∃ k : Nat, i = .int .i64 k ∧ k ≤ d.length ∧ (∃ y, wr = ext W y) ∧ Hid (fndD name (d.drop k) = fndD name d)) (fun i _ => d.length - (intOf i).toNat)
  case atStart => exact ⟨0, rfl, by omega, refl_ext W, Lib.hid (by simp)⟩
  case round =>
    obtain ⟨k, rfl, hk, hy, Hj⟩ := hrel
    have hyw := trans_ext xW hy
    have P2 := PW.toExt hy
    have R2 := RW.toExt hy
    obtain ⟨lp2, p20, fp2⟩ := bx1 P2
    by_cases hlt : k < d.length
    · cases t with
      | false =>
        have HZ := Lib.hid (HLf.out rfl)
        go_wp2_with (go_at_call 60; refine (specIsValidDatabase_w HD.out (h1.toExt hyw)).mono ?_; rintro e w1 ⟨rfl, hx1⟩; rw [HT.out]; obtain ⟨lr1, r10, r11, fr1⟩ := bx2 (R2.toExt hx1))
        refine bodyPost_ret (v := .tuple #[.agg #[.int .i64 0, .slice none 0 0], .bool false]) (by simp [results, Try.results71, go_sem, *]) rfl (relOut_none HZ.out rfl (by refine x'z ?_; repeat (with_reducible (first | exact x'a _ _ | exact x'b _ | exact x'c (by assumption) | refine x'd ?_ (by assumption) | refine x'e ?_ _ | refine x'f ?_ _ | refine x'g ?_ | refine x'h ?_ ?_ _ | refine x'i ?_ _ | refine x'j ?_ | refine x'k ?_ _ | refine x'l ?_ _ _ | refine x'm ?_ | assumption | (refine x'n ?_; omega) | omega))))
      | true =>
        go_upto_region 4 with (go_at_call 60; refine (specIsValidDatabase_w HD.out (h1.toExt hyw)).mono ?_; rintro e w1 ⟨rfl, hx1⟩; rw [HT.out])
        have hy := trans_ext hy hx1
        have hyw := trans_ext xW hy
        obtain ⟨lp3, p30, fp3⟩ := bx1 (P2.toExt hx1)
        have R3 := R2.toExt hx1
        obtain ⟨lr2, r20, r21, fr2⟩ := bx2 R3
        clear lp2 p20 fp2
        obtain ⟨b, o, A1, c1, rfl, hb, hc, hc1, hc2, hvx⟩ := (h1.toExt hyw).atT hlt
        have lx2 := HD.out.rn _ (List.getElem_mem hlt)
        have HXL := Lib.hid (HD.out.rl _ (List.getElem_mem hlt))
        have e := Hj.out
        rw [fndD_step hlt] at e
        have HV := Lib.hid (vII_get (vRel_get hvx).2).2
        obtain ⟨x, hx⟩ : ∃ x, d[k] = x := ⟨_, rfl⟩
        rw [hx] at e hc hc1 hc2 lx2 HXL HV
        have hwz := size_of_ext hyw
        clear hx hvx
        by_cases he : x.1 = name
        · have hbb : (x.1.toList == name.toList) = true := by rw [str_beq, decide_eq_true he]
          rw [if_pos he] at e
          have HZ := Lib.hid (show lookD d name = some x.2 by rw [HLt.out (by trivial), ← e])
          clear e he
          go_wp2_with (go_at_call 152; refine (l5Copy_any lx2 HXL.out (HV.out.toExt (by refine x'z ?_; repeat (with_reducible (first | exact x'a _ _ | exact x'b _ | exact x'c (by assumption) | refine x'd ?_ (by assumption) | refine x'e ?_ _ | refine x'f ?_ _ | refine x'g ?_ | refine x'h ?_ ?_ _ | refine x'i ?_ _ | refine x'j ?_ | refine x'k ?_ _ | refine x'l ?_ _ _ | refine x'm ?_ | assumption | (refine x'n ?_; omega) | omega))))).mono ?_; rintro e w9 ⟨u9, v9, F9, rfl, hx9, hS9, hN9, hF9⟩; obtain ⟨A9, c9, rfl, rfl, _⟩ := sRel_form hS9; have R9 : BoxAt w9 (w.heap.size + 1) #[.int .i64 0, .slice none 0 0] := (by repeat (with_reducible (first | assumption | exact BoxAt.new _ _ _ | apply BoxAt.set2 | refine BoxAt.set2' ?_ (by omega) | apply BoxAt.setP0 | apply BoxAt.setP1 | refine BoxAt.setO ?_ (by omega) | refine BoxAt.alloc ?_ _ | refine BoxAt.drew ?_ | refine BoxAt.toExt ?_ (by assumption)))); obtain ⟨lr9, r90, r91, fr9⟩ := bx2 R9)
          refine bodyPost_ret (v := .tuple #[.agg #[.int .i64 x.2.1, .slice A9 x.2.2.length c9], .bool true]) (by simp [results, Try.results71, go_sem, *]) rfl ⟨_, _, F9, by rw [HZ.out]; rfl, (by refine x'z ?_; repeat (with_reducible (first | exact x'a _ _ | exact x'b _ | exact x'c (by assumption) | refine x'd ?_ (by assumption) | refine x'e ?_ _ | refine x'f ?_ _ | refine x'g ?_ | refine x'h ?_ ?_ _ | refine x'i ?_ _ | refine x'j ?_ | refine x'k ?_ _ | refine x'l ?_ _ _ | refine x'm ?_ | assumption | (refine x'n ?_; omega) | omega))), ?_, hN9, ?_⟩
          · rw [HZ.out]
            refine OD.chg (G := [w.heap.size + 1]) hS9 (by repeat (with_reducible (first | exact Chg.refl _ _ | refine Chg.trans0 ?_ (by assumption) | refine Chg.extS ?_ _ | refine Chg.alloc ?_ _ | refine Chg.drew ?_ | refine Chg.setCell ?_ (.inl (by simp)) _))) ?_
            intro b hb h
            have := hF9 b hb
            rw [List.mem_singleton.1 h] at this
            (try simp at this)
            omega
          · intro b hb
            have := hF9 b hb
            (try simp at this)
            omega
        · have hbb : (x.1.toList == name.toList) = false := by rw [str_beq, decide_eq_false he]
          rw [if_neg he] at e
          have HK := Lib.hid e
          clear e he
          go_wp2
          exact ⟨⟨k + 1, by go_num, by omega, (by refine x'z ?_; repeat (with_reducible (first | exact x'a _ _ | exact x'b _ | exact x'c (by assumption) | refine x'd ?_ (by assumption) | refine x'e ?_ _ | refine x'f ?_ _ | refine x'g ?_ | refine x'h ?_ ?_ _ | refine x'i ?_ _ | refine x'j ?_ | refine x'k ?_ _ | refine x'l ?_ _ _ | refine x'm ?_ | assumption | (refine x'n ?_; omega) | omega))), HK⟩, by simp [intOf]; omega⟩
    · have e := Hj.out
      rw [fndD_end hlt] at e
      have HZ := Lib.hid (HLn.out e.symm)
      obtain ⟨lr2, r20, r21, fr2⟩ := bx2 R2
      clear e Hj
      go_wp2
      refine bodyPost_ret (v := .tuple #[.agg #[.int .i64 0, .slice none 0 0], .bool false]) (by simp [results, Try.results71, go_sem, *]) rfl (relOut_none HZ.out rfl (by refine x'z ?_; repeat (with_reducible (first | exact x'a _ _ | exact x'b _ | exact x'c (by assumption) | refine x'd ?_ (by assumption) | refine x'e ?_ _ | refine x'f ?_ _ | refine x'g ?_ | refine x'h ?_ ?_ _ | refine x'i ?_ _ | refine x'j ?_ | refine x'k ?_ _ | refine x'l ?_ _ _ | refine x'm ?_ | assumption | (refine x'n ?_; omega) | omega))))
end Go.Proofs.Ytfigcfajkilhiaa
namespace Go.Proofs.Ytfigcfajkilhiaa
open Go.RowKit
def fitO (o : Option Rd) (n : Nat) : Bool := match o with | some r => decide (r.1 = (n : Int)) | none => false
theorem atFit_look {d : Dbd} {a : At} {o : Option Rd} (h : lookD d a.1 = o) : atFit d a = fitO o a.2.length := by
  subst h
  rfl
theorem fitL_step {d : Dbd} {l : List At} {k : Nat} (h : k < l.length) : (l.drop k).all (atFit d) = (atFit d l[k] && (l.drop (k + 1)).all (atFit d)) := by
  rw [List.drop_eq_getElem_cons h, List.all_cons]
theorem fitL_end {d : Dbd} {l : List At} {k : Nat} (h : ¬ k < l.length) : (l.drop k).all (atFit d) = true := by
  rw [List.drop_eq_nil_of_le (by omega)]; rfl
def CutR (o : Option Rd) (W : World) (va vb : Value) (wx : World) : Prop := ∃ b A c, va = .pointer (some ⟨b, 0, none⟩) ∧ vb = .bool o.isSome ∧ BoxAt wx b #[.int .i64 (o.getD (0, [])).1, .slice A (o.getD (0, [])).2.length c] ∧ RII wx A (o.getD (0, [])).2 ∧ W.heap.size ≤ b ∧ ∃ y, wx = ext W y
theorem look_w {d : Dbd} (h : WDb d) {name : ByteArray} {r : Rd} (hl : lookD d name = some r) : r.2.length ≤ 1000000000 ∧ ∀ x ∈ r.2, x.length ≤ 1000000000 := by
  unfold lookD at hl
  split at hl
  · have := fndD_mem hl
    exact ⟨h.rn _ this, h.rl _ this⟩
  · cases hl
set_option maxRecDepth 100000 in
set_option maxHeartbeats 16000000 in
theorem IsQueryFor_any {A B C : Option Addr} {c e g : Nat} {d : Dbd} {q : Qd} {w : World} (hd : WDb d) (h1 : RV 3 vTb w A d) (hb : BQ q) (h2 : vQ w [.int .i64 q.1, .slice B q.2.1.length e, .slice C q.2.2.length g] q) :
    Calls Try.prog 74 #[.agg #[.slice A d.length c], .agg #[.int .i64 q.1, .slice B q.2.1.length e, .slice C q.2.2.length g]] w fun e w' => e = .returned (.bool (iqfB d q)) ∧ ∃ y, w' = ext w y := by
  have HD := Lib.hid hd
  have HB := Lib.hid hb
  have HV := Lib.hid h2
  have h3 := (vAts_get (vQ_get h2).1).2
  have hal := hb.2.1.1
  obtain ⟨t1, ht1⟩ : ∃ t, vqB q = t := ⟨_, rfl⟩
  obtain ⟨t2, ht2⟩ : ∃ t, dbB d = t := ⟨_, rfl⟩
  have HT1 := Lib.hid ht1
  have HT2 := Lib.hid ht2
  have HE := Lib.hid (show iqfB d q = (t1 && t2 && q.2.1.all (atFit d)) by unfold iqfB; rw [ht1, ht2])
  clear hd hb h2 ht1 ht2
  go_enter Try.func74, Try.ntmps74
  go_upto_region 1 with fail
  refine wp_name ?_
  intro W hW
  have xW : ∃ y, W = ext w y := by rw [hW.out]; exact (by refine x'z ?_; repeat (with_reducible (first | exact x'a _ _ | exact x'b _ | exact x'c (by assumption) | refine x'd ?_ (by assumption) | refine x'e ?_ _ | refine x'f ?_ _ | refine x'g ?_ | refine x'h ?_ ?_ _ | refine x'i ?_ _ | refine x'j ?_ | refine x'k ?_ _ | refine x'l ?_ _ _ | refine x'm ?_ | assumption | (refine x'n ?_; omega) | omega)))
  have PW : BoxAt W w.heap.size #[.slice A d.length c] := by rw [hW.out]; exact (by repeat (with_reducible (first | assumption | exact BoxAt.new _ _ _ | apply BoxAt.set10 | apply BoxAt.set2 | refine BoxAt.set2' ?_ (by omega) | apply BoxAt.setP0 | apply BoxAt.setP1 | refine BoxAt.setO ?_ (by omega) | refine BoxAt.alloc ?_ _ | refine BoxAt.drew ?_ | refine BoxAt.toExt ?_ (by assumption))))
  have QW : BoxAt W (w.heap.size + 1) #[.int .i64 q.1, .slice B q.2.1.length e, .slice C q.2.2.length g] := by
    rw [hW.out]
    simpa using BoxAt.new (w.alloc (.cells #[.slice A d.length c] 29)) #[.int .i64 q.1, .slice B q.2.1.length e, .slice C q.2.2.length g] 55
  obtain ⟨lq, q0, q1, q2, fq⟩ := box3 QW
  clear hW
  cases t1 with
  | false =>
    go_wp2_with (go_at_call 156; refine (IsValidQuery_any HB.out (VD.toExt HV.out xW)).mono ?_; rintro e w1 ⟨rfl, hx1⟩; rw [HT1.out])
    go_ret
    exact ⟨by rw [HE.out]; rfl, (by refine x'z ?_; repeat (with_reducible (first | exact x'a _ _ | exact x'b _ | exact x'c (by assumption) | refine x'd ?_ (by assumption) | refine x'e ?_ _ | refine x'f ?_ _ | refine x'g ?_ | refine x'h ?_ ?_ _ | refine x'i ?_ _ | refine x'j ?_ | refine x'k ?_ _ | refine x'l ?_ _ _ | refine x'm ?_ | assumption | (refine x'n ?_; omega) | omega)))⟩
  | true =>
    cases t2 with
    | false =>
      go_wp2_with (first
        | (go_at_call 156; refine (IsValidQuery_any HB.out (VD.toExt HV.out xW)).mono ?_; rintro e w1 ⟨rfl, hx1⟩; rw [HT1.out]; obtain ⟨lp1, p10, fp1⟩ := bx1 (PW.toExt hx1))
        | (go_at_call 63; refine (IsValidDatabase_w HD.out (h1.toExt (trans_ext xW hx1))).mono ?_; rintro e w2 ⟨rfl, hx2⟩; rw [HT2.out]))
      go_ret
      exact ⟨by rw [HE.out]; rfl, (by refine x'z ?_; repeat (with_reducible (first | exact x'a _ _ | exact x'b _ | exact x'c (by assumption) | refine x'd ?_ (by assumption) | refine x'e ?_ _ | refine x'f ?_ _ | refine x'g ?_ | refine x'h ?_ ?_ _ | refine x'i ?_ _ | refine x'j ?_ | refine x'k ?_ _ | refine x'l ?_ _ _ | refine x'm ?_ | assumption | (refine x'n ?_; omega) | omega)))⟩
    | true =>
      have HE2 := Lib.hid (show iqfB d q = q.2.1.all (atFit d) by rw [HE.out]; rfl)
      go_upto_region 3 with (first
        | (go_at_call 156; refine (IsValidQuery_any HB.out (VD.toExt HV.out xW)).mono ?_; rintro e w1 ⟨rfl, hx1⟩; rw [HT1.out]; obtain ⟨lp1, p10, fp1⟩ := bx1 (PW.toExt hx1))
        | (go_at_call 63; refine (IsValidDatabase_w HD.out (h1.toExt (trans_ext xW hx1))).mono ?_; rintro e w2 ⟨rfl, hx2⟩; rw [HT2.out]))
      have x2 := trans_ext hx1 hx2
      have xw2 := trans_ext xW x2
      have P2 := PW.toExt x2
      have Q2 := QW.toExt x2
      obtain ⟨lq2, q20, q21, q22, fq2⟩ := box3 Q2
      clear lq q0 q1 q2 fq lp1 p10 fp1 PW QW HB HV
      go_wp2_with fail
      clear lq2 q20 q21 q22 fq2
      go_loopw [20] (fun i wr => ∃ k : Nat, i = .int .i64 k ∧ k ≤ q.2.1.length ∧ (∃ y, wr = ext w2 y) ∧ Hid ((q.2.1.drop k).all (atFit d) = q.2.1.all (atFit d))) (fun i _ => q.2.1.length - (intOf i).toNat)
      case atStart => exact ⟨0, rfl, by omega, refl_ext w2, Lib.hid (by simp)⟩
      case round =>
        obtain ⟨k, rfl, hk, hy, Hj⟩ := hrel
        have hyw := trans_ext xw2 hy
        have P3 := P2.toExt hy
        obtain ⟨lp3, p30, fp3⟩ := bx1 P3
        by_cases hlt : k < q.2.1.length
        · obtain ⟨b, o, A1, c1, rfl, hbb, hc, hc1, hv⟩ := (h3.toExt hyw).atA hlt
          have e := Hj.out
          rw [fitL_step hlt] at e
          obtain ⟨x, hx⟩ : ∃ x, q.2.1[k] = x := ⟨_, rfl⟩
          rw [hx] at e hc hc1 hv
          obtain ⟨o, ho⟩ : ∃ o, lookD d x.1 = o := ⟨_, rfl⟩
          have HO := Lib.hid ho
          rw [atFit_look ho] at e
          clear hx ho hv
          cases o with
          | none =>
            have HF := Lib.hid (show q.2.1.all (atFit d) = false by rw [← e]; rfl)
            clear e
            go_wp2_with (go_at_call 147; refine (LookupRelation_any HD.out (h1.toExt (trans_ext hyw (by refine x'z ?_; repeat (with_reducible (first | exact x'a _ _ | exact x'b _ | exact x'c (by assumption) | refine x'd ?_ (by assumption) | refine x'e ?_ _ | refine x'f ?_ _ | refine x'g ?_ | refine x'h ?_ ?_ _ | refine x'i ?_ _ | refine x'j ?_ | refine x'k ?_ _ | refine x'l ?_ _ _ | refine x'm ?_ | assumption | (refine x'n ?_; omega) | omega)))))).mono ?_; rw [HO.out]; rintro e w3 ⟨u0, u1, F3, rfl, hx3, hS3, hN3, hF3⟩; obtain ⟨A3, c3, rfl, rfl, _⟩ := sRel_form hS3)
            go_ret
            exact ⟨by rw [HE2.out, HF.out]; rfl, (by refine x'z ?_; repeat (with_reducible (first | exact x'a _ _ | exact x'b _ | exact x'c (by assumption) | refine x'd ?_ (by assumption) | refine x'e ?_ _ | refine x'f ?_ _ | refine x'g ?_ | refine x'h ?_ ?_ _ | refine x'i ?_ _ | refine x'j ?_ | refine x'k ?_ _ | refine x'l ?_ _ _ | refine x'm ?_ | assumption | (refine x'n ?_; omega) | omega)))⟩
          | some r =>
            by_cases hr : r.1 = (x.2.length : Int)
            · rw [show fitO (some r) x.2.length = true from decide_eq_true hr] at e
              have HK := Lib.hid (show (q.2.1.drop (k + 1)).all (atFit d) = q.2.1.all (atFit d) by rw [← e]; rfl)
              have hne : (r.1 != (x.2.length : Int)) = false := by simpa using hr
              clear e hr
              go_wp2_with (go_at_call 147; refine (LookupRelation_any HD.out (h1.toExt (trans_ext hyw (by refine x'z ?_; repeat (with_reducible (first | exact x'a _ _ | exact x'b _ | exact x'c (by assumption) | refine x'd ?_ (by assumption) | refine x'e ?_ _ | refine x'f ?_ _ | refine x'g ?_ | refine x'h ?_ ?_ _ | refine x'i ?_ _ | refine x'j ?_ | refine x'k ?_ _ | refine x'l ?_ _ _ | refine x'm ?_ | assumption | (refine x'n ?_; omega) | omega)))))).mono ?_; rw [HO.out]; rintro e w3 ⟨u0, u1, F3, rfl, hx3, hS3, hN3, hF3⟩; obtain ⟨A3, c3, rfl, rfl, _⟩ := sRel_form hS3; have T3 : BoxAt w3 wr.heap.size #[.string x.1, .slice A1 x.2.length c1] := (by repeat (with_reducible (first | assumption | exact BoxAt.new _ _ _ | apply BoxAt.set2 | refine BoxAt.set2' ?_ (by omega) | apply BoxAt.setP0 | apply BoxAt.setP1 | refine BoxAt.setO ?_ (by omega) | refine BoxAt.alloc ?_ _ | refine BoxAt.drew ?_ | refine BoxAt.toExt ?_ (by assumption)))); obtain ⟨lt3, t30, t31, ft3⟩ := bx2 T3; simp only [Option.getD_some] at *)
              exact ⟨⟨k + 1, by go_num, by omega, (by refine x'z ?_; repeat (with_reducible (first | exact x'a _ _ | exact x'b _ | exact x'c (by assumption) | refine x'd ?_ (by assumption) | refine x'e ?_ _ | refine x'f ?_ _ | refine x'g ?_ | refine x'h ?_ ?_ _ | refine x'i ?_ _ | refine x'j ?_ | refine x'k ?_ _ | refine x'l ?_ _ _ | refine x'm ?_ | assumption | (refine x'n ?_; omega) | omega))), HK⟩, by simp [intOf]; omega⟩
            · rw [show fitO (some r) x.2.length = false from decide_eq_false hr] at e
              have HF := Lib.hid (show q.2.1.all (atFit d) = false by rw [← e]; rfl)
              have hne : (r.1 != (x.2.length : Int)) = true := by simpa using hr
              clear e hr
              go_wp2_with (go_at_call 147; refine (LookupRelation_any HD.out (h1.toExt (trans_ext hyw (by refine x'z ?_; repeat (with_reducible (first | exact x'a _ _ | exact x'b _ | exact x'c (by assumption) | refine x'd ?_ (by assumption) | refine x'e ?_ _ | refine x'f ?_ _ | refine x'g ?_ | refine x'h ?_ ?_ _ | refine x'i ?_ _ | refine x'j ?_ | refine x'k ?_ _ | refine x'l ?_ _ _ | refine x'm ?_ | assumption | (refine x'n ?_; omega) | omega)))))).mono ?_; rw [HO.out]; rintro e w3 ⟨u0, u1, F3, rfl, hx3, hS3, hN3, hF3⟩; obtain ⟨A3, c3, rfl, rfl, _⟩ := sRel_form hS3; have T3 : BoxAt w3 wr.heap.size #[.string x.1, .slice A1 x.2.length c1] := (by repeat (with_reducible (first | assumption | exact BoxAt.new _ _ _ | apply BoxAt.set2 | refine BoxAt.set2' ?_ (by omega) | apply BoxAt.setP0 | apply BoxAt.setP1 | refine BoxAt.setO ?_ (by omega) | refine BoxAt.alloc ?_ _ | refine BoxAt.drew ?_ | refine BoxAt.toExt ?_ (by assumption)))); obtain ⟨lt3, t30, t31, ft3⟩ := bx2 T3; simp only [Option.getD_some] at *)
              go_ret
              exact ⟨by rw [HE2.out, HF.out]; rfl, (by refine x'z ?_; repeat (with_reducible (first | exact x'a _ _ | exact x'b _ | exact x'c (by assumption) | refine x'd ?_ (by assumption) | refine x'e ?_ _ | refine x'f ?_ _ | refine x'g ?_ | refine x'h ?_ ?_ _ | refine x'i ?_ _ | refine x'j ?_ | refine x'k ?_ _ | refine x'l ?_ _ _ | refine x'm ?_ | assumption | (refine x'n ?_; omega) | omega)))⟩
        · have e := Hj.out
          rw [fitL_end hlt] at e
          have HK := Lib.hid (show iqfB d q = true by rw [HE2.out, ← e])
          clear e Hj
          go_wp2
          go_ret
          exact ⟨by rw [HK.out]; rfl, hyw⟩
set_option maxRecDepth 100000 in
set_option maxHeartbeats 16000000 in
theorem specIsQueryFor_any {A B C : Option Addr} {c e g : Nat} {d : Dbd} {q : Qd} {w : World} (hd : WDb d) (h1 : RV 3 vTb w A d) (hb : BQ q) (h2 : vQ w [.int .i64 q.1, .slice B q.2.1.length e, .slice C q.2.2.length g] q) :
    Calls Try.prog 75 #[.agg #[.slice A d.length c], .agg #[.int .i64 q.1, .slice B q.2.1.length e, .slice C q.2.2.length g]] w fun e w' => e = .returned (.bool (iqfB d q)) ∧ ∃ y, w' = ext w y := by
  have HD := Lib.hid hd
  have HB := Lib.hid hb
  have HV := Lib.hid h2
  have h3 := (vAts_get (vQ_get h2).1).2
  have hal := hb.2.1.1
  obtain ⟨t1, ht1⟩ : ∃ t, vqB q = t := ⟨_, rfl⟩
  obtain ⟨t2, ht2⟩ : ∃ t, dbB d = t := ⟨_, rfl⟩
  have HT1 := Lib.hid ht1
  have HT2 := Lib.hid ht2
  have HE := Lib.hid (show iqfB d q = (t1 && t2 && q.2.1.all (atFit d)) by unfold iqfB; rw [ht1, ht2])
  have HF := Lib.hid (fun (h : q.2.1.all (atFit d) = false) => show iqfB d q = false by unfold iqfB; rw [h, Bool.and_false])
  clear hd hb h2 ht1 ht2
  go_enter Try.func75, Try.ntmps75
  go_upto_region 1 with fail
  refine wp_name ?_
  intro W hW
  have xW : ∃ y, W = ext w y := by rw [hW.out]; exact (by refine x'z ?_; repeat (with_reducible (first | exact x'a _ _ | exact x'b _ | exact x'c (by assumption) | refine x'd ?_ (by assumption) | refine x'e ?_ _ | refine x'f ?_ _ | refine x'g ?_ | refine x'h ?_ ?_ _ | refine x'i ?_ _ | refine x'j ?_ | refine x'k ?_ _ | refine x'l ?_ _ _ | refine x'm ?_ | assumption | (refine x'n ?_; omega) | omega)))
  have PW : BoxAt W w.heap.size #[.slice A d.length c] := by rw [hW.out]; exact (by repeat (with_reducible (first | assumption | exact BoxAt.new _ _ _ | apply BoxAt.set10 | apply BoxAt.set2 | refine BoxAt.set2' ?_ (by omega) | apply BoxAt.setP0 | apply BoxAt.setP1 | refine BoxAt.setO ?_ (by omega) | refine BoxAt.alloc ?_ _ | refine BoxAt.drew ?_ | refine BoxAt.toExt ?_ (by assumption))))
  have QW : BoxAt W (w.heap.size + 1) #[.int .i64 q.1, .slice B q.2.1.length e, .slice C q.2.2.length g] := by
    rw [hW.out]
    simpa using BoxAt.new (w.alloc (.cells #[.slice A d.length c] 29)) #[.int .i64 q.1, .slice B q.2.1.length e, .slice C q.2.2.length g] 55
  clear hW
  go_wp2_with fail
  go_loopw [5] (fun i wr => ∃ k : Nat, i = .int .i64 k ∧ k ≤ q.2.1.length ∧ (∃ y, wr = ext W y) ∧ Hid ((q.2.1.drop k).all (atFit d) = q.2.1.all (atFit d))) (fun i _ => q.2.1.length - (intOf i).toNat)
  case atStart => exact ⟨0, rfl, by omega, refl_ext W, Lib.hid (by simp)⟩
  case round =>
    obtain ⟨k, rfl, hk, hy, Hj⟩ := hrel
    have hyw := trans_ext xW hy
    have P3 := PW.toExt hy
    have Q3 := QW.toExt hy
    obtain ⟨lp3, p30, fp3⟩ := bx1 P3
    obtain ⟨lq3, q30, q31, q32, fq3⟩ := box3 Q3
    by_cases hlt : k < q.2.1.length
    · obtain ⟨b, o, A1, c1, rfl, hbb, hc, hc1, hv⟩ := (h3.toExt hyw).atA hlt
      have e := Hj.out
      rw [fitL_step hlt] at e
      obtain ⟨x, hx⟩ : ∃ x, q.2.1[k] = x := ⟨_, rfl⟩
      rw [hx] at e hc hc1 hv
      obtain ⟨o, ho⟩ : ∃ o, lookD d x.1 = o := ⟨_, rfl⟩
      have HO := Lib.hid ho
      rw [atFit_look ho] at e
      clear hx ho hv
      go_upto_region 4 with fail
      go_cut [6, 7] (CutR o wr)
      case first =>
        go_region_held3 (fun w' => (∀ a : Addr, a.block < wr.heap.size → w'.cell? a = wr.cell? a) ∧ ∃ y, w' = ext wr y) (first | exact heldE (by refine x'z ?_; repeat (with_reducible (first | exact x'a _ _ | exact x'b _ | exact x'c (by assumption) | refine x'd ?_ (by assumption) | refine x'e ?_ _ | refine x'f ?_ _ | refine x'g ?_ | refine x'h ?_ ?_ _ | refine x'i ?_ _ | refine x'j ?_ | refine x'k ?_ _ | refine x'l ?_ _ _ | refine x'm ?_ | assumption | (refine x'n ?_; omega) | omega)))) ((go_at_call 71; refine (specLookupRelation_any HD.out (h1.toExt (trans_ext hyw (by refine x'z ?_; repeat (with_reducible (first | exact x'a _ _ | exact x'b _ | exact x'c (by assumption) | refine x'd ?_ (by assumption) | refine x'e ?_ _ | refine x'f ?_ _ | refine x'g ?_ | refine x'h ?_ ?_ _ | refine x'i ?_ _ | refine x'j ?_ | refine x'k ?_ _ | refine x'l ?_ _ _ | refine x'm ?_ | assumption | (refine x'n ?_; omega) | omega)))))).mono ?_; rw [HO.out]; rintro e w3 ⟨u0, u1, F3, rfl, hx3, hS3, hN3, hF3⟩; obtain ⟨A3, c3, rfl, rfl, hI3⟩ := sRel_form hS3; (first | (have L3 : BoxAt w3 wr.heap.size #[.int .i64 0, .slice none 0 0] := BoxAt.toExt (BoxAt.new wr _ _) hx3; obtain ⟨z1, z2, z3, z4⟩ := bx2 L3) | (have L3 : BoxAt w3 wr.heap.size #[.int .i64 0, .slice none 0 0] := BoxAt.toExt (BoxAt.new wr.drew _ _) hx3; obtain ⟨z1, z2, z3, z4⟩ := bx2 L3) | (have L3 : BoxAt w3 wr.heap.size #[.int .i64 0, .slice none 0 0] := BoxAt.toExt (BoxAt.new wr _ _).drew hx3; obtain ⟨z1, z2, z3, z4⟩ := bx2 L3) | skip)))
        all_goals
          go_wp2_with fail
          go_meet
          have hz3 := size_of_ext hx3
          (first | simp only [World.size_alloc, World.drew] at hz3 hF3 | simp only [World.drew] at hz3 hF3)
          first
            | exact ⟨w3.heap.size, A3, c3, rfl, rfl, BoxAt.new _ _ _, (vII_get (sII_v _ _ _ (OD.toExt hI3 (alloc_ext _ _)))).2, by omega, (by refine x'z ?_; repeat (with_reducible (first | exact x'a _ _ | exact x'b _ | exact x'c (by assumption) | refine x'd ?_ (by assumption) | refine x'e ?_ _ | refine x'f ?_ _ | refine x'g ?_ | refine x'h ?_ ?_ _ | refine x'i ?_ _ | refine x'j ?_ | refine x'k ?_ _ | refine x'l ?_ _ _ | refine x'm ?_ | assumption | (refine x'n ?_; omega) | omega)))⟩
            | exact ⟨wr.heap.size, A3, c3, rfl, rfl, (by repeat (with_reducible (first | assumption | exact BoxAt.new _ _ _ | apply BoxAt.set2 | refine BoxAt.set2' ?_ (by omega) | apply BoxAt.setP0 | apply BoxAt.setP1 | refine BoxAt.setO ?_ (by omega) | refine BoxAt.alloc ?_ _ | refine BoxAt.drew ?_ | refine BoxAt.toExt ?_ (by assumption)))), (vII_get (sII_v _ _ _ (OD.chg (G := [wr.heap.size]) hI3 (by repeat (with_reducible (first | exact Chg.refl _ _ | refine Chg.trans0 ?_ (by assumption) | refine Chg.extS ?_ _ | refine Chg.alloc ?_ _ | refine Chg.drew ?_ | refine Chg.setCell ?_ (.inl (by simp)) _))) (fun x hx hm => by have := hF3 x hx; rw [List.mem_singleton.1 hm] at this; omega)))).2, by omega, (by refine x'z ?_; repeat (with_reducible (first | exact x'a _ _ | exact x'b _ | exact x'c (by assumption) | refine x'd ?_ (by assumption) | refine x'e ?_ _ | refine x'f ?_ _ | refine x'g ?_ | refine x'h ?_ ?_ _ | refine x'i ?_ _ | refine x'j ?_ | refine x'k ?_ _ | refine x'l ?_ _ _ | refine x'm ?_ | assumption | (refine x'n ?_; omega) | omega)))⟩
      obtain ⟨bX, A3, c3, rfl, rfl, BX, hvX, hbX, hxX⟩ := hcut
      obtain ⟨w4, rfl⟩ : ∃ W, W = wc := ⟨_, rfl⟩
      have hyw4 := trans_ext hyw hxX
      have hc4 := cellW hxX hbb hc
      have hc14 := cellW hxX hbb hc1
      have hb4 := ltW hxX hbb
      obtain ⟨lq4, q40, q41, q42, fq4⟩ := box3 (Q3.toExt hxX)
      obtain ⟨lx4, x40, x41, fx4⟩ := bx2 BX
      clear lq3 q30 q31 q32 fq3 lp3 p30 fp3 hc hc1 hbb
      cases o with
      | none =>
        have HF2 := Lib.hid (HF.out (by rw [← e]; rfl))
        clear e
        go_wp2_with fail
        refine wp_region_ext (by kernel_rfl) (by kernel_rfl) ?_
        repeat (go_big_quiet_step (fail))
        refine wpQuiet_nil ?_
        rintro _ ⟨zz, rfl⟩
        go_wp2
        go_ret
        exact ⟨by rw [HF2.out]; rfl, trans_ext hyw4 ⟨_, rfl⟩⟩
      | some r =>
        simp only [Option.getD_some] at x40 x41
        by_cases hr : r.1 = (x.2.length : Int)
        · rw [show fitO (some r) x.2.length = true from decide_eq_true hr] at e
          have HK := Lib.hid (show (q.2.1.drop (k + 1)).all (atFit d) = q.2.1.all (atFit d) by rw [← e]; rfl)
          have hne : (r.1 != (x.2.length : Int)) = false := by simpa using hr
          clear e hr
          go_wp2_with fail
          refine wp_region_ext (by kernel_rfl) (by kernel_rfl) ?_
          repeat (go_big_quiet_step (fail))
          refine wpQuiet_nil ?_
          rintro _ ⟨zz, rfl⟩
          go_wp2
          exact ⟨⟨k + 1, by go_num, by omega, trans_ext (trans_ext hy hxX) ⟨_, rfl⟩, HK⟩, by simp [intOf]; omega⟩
        · rw [show fitO (some r) x.2.length = false from decide_eq_false hr] at e
          have HF2 := Lib.hid (HF.out (by rw [← e]; rfl))
          have hne : (r.1 != (x.2.length : Int)) = true := by simpa using hr
          clear e hr
          go_wp2_with fail
          refine wp_region_ext (by kernel_rfl) (by kernel_rfl) ?_
          repeat (go_big_quiet_step (fail))
          refine wpQuiet_nil ?_
          rintro _ ⟨zz, rfl⟩
          go_wp2
          go_ret
          exact ⟨by rw [HF2.out]; rfl, trans_ext hyw4 ⟨_, rfl⟩⟩
    · have e := Hj.out
      rw [fitL_end hlt] at e
      have HK := Lib.hid (show iqfB d q = (t1 && t2) by rw [HE.out, ← e, Bool.and_true])
      clear e Hj
      cases t1 with
      | false =>
        go_wp2_with (go_at_call 157; refine (specIsValidQuery_any HB.out (VD.toExt HV.out hyw)).mono ?_; rintro e w1 ⟨rfl, hx1⟩; rw [HT1.out])
        go_ret
        exact ⟨by rw [HK.out]; rfl, trans_ext hyw hx1⟩
      | true =>
        cases t2
        all_goals
          go_wp2_with (first
            | (go_at_call 157; refine (specIsValidQuery_any HB.out (VD.toExt HV.out hyw)).mono ?_; rintro e w1 ⟨rfl, hx1⟩; rw [HT1.out]; obtain ⟨lp1, p10, fp1⟩ := bx1 (P3.toExt hx1))
            | (go_at_call 60; refine (specIsValidDatabase_w HD.out (h1.toExt (trans_ext hyw hx1))).mono ?_; rintro e w2 ⟨rfl, hx2⟩; rw [HT2.out]))
          go_ret
          exact ⟨by rw [HK.out]; rfl, trans_ext hyw (trans_ext hx1 hx2)⟩
end Go.Proofs.Ytfigcfajkilhiaa
namespace Go.Proofs.Ytfigcfajkilhiaa
open Go.RowKit
theorem qok {d : Dbd} {q : Qd} (h : iqfB d q = true) : QOk d q := by
  unfold iqfB at h
  simp only [Bool.and_eq_true] at h
  obtain ⟨⟨h1, h2⟩, h3⟩ := h
  obtain ⟨v1, v2, v3⟩ := vqB_vars h1
  have h4 := h1
  unfold vqB at h4
  simp only [Bool.and_eq_true] at h4
  obtain ⟨⟨⟨⟨_, k2⟩, k3⟩, _⟩, k5⟩ := h4
  have b2 := inB_t k2
  have k3 := (setB_sound k3).1
  refine ⟨v1, v2, h2, by omega, by omega, fun a ha => (List.all_eq_true.1 h3) a ha, v3, fun v h0 hl => ?_, fun v hv => by have := k3 v hv; omega⟩
  unfold coverB mkU at k5
  rw [List.all_eq_true] at k5
  have := k5 (decide ((v.toNat : Int) ∈ seen q.2.1)) (List.mem_map.2 ⟨v.toNat, List.mem_range.2 (by omega), rfl⟩)
  have := of_decide_eq_true this
  rw [Int.toNat_of_nonneg h0] at this
  unfold seen at this
  obtain ⟨a, ha, hv⟩ := List.mem_flatMap.1 this
  exact ⟨a, ha, hv⟩
theorem atFit_get {d : Dbd} {a : At} (h : atFit d a = true) : lookD d a.1 = some (relOf d a) := by
  unfold atFit at h
  unfold relOf
  cases e : lookD d a.1 with
  | none => rw [e] at h; cases h
  | some r => rfl
end Go.Proofs.Ytfigcfajkilhiaa
