/- Contracts of functions that the statement reaches. -/
import Derived.Test.YtfigcfajkilhiaaGreatE13
import Derived.Test.YtfigcfajkilhiaaGreatE15
import Derived.Deep.RegionLaw
import Derived.Deep.DrawnRows
import Derived.Deep.DeepCutAuto
import Derived.Test.YtfigcfajkilhiaaGreatE09
import Derived.Test.YtfigcfajkilhiaaGreatE14
import Derived.Test.YtfigcfajkilhiaaGreatE08
import Derived.Test.YtfigcfajkilhiaaGreatE07
import Derived.Test.YtfigcfajkilhiaaGreatE04
import Derived.Test.YtfigcfajkilhiaaGreatE01
namespace Go.Proofs.YtfigcfajkilhiaaGreat
open Go.RowKit
def RelOut (o : Option Rd) (w : World) (e : Ending) (w' : World) : Prop := ∃ v0 v1 F, e = .returned (.tuple #[.agg #[v0, v1], .bool o.isSome]) ∧ (∃ y, w' = ext w y) ∧ sRel w' [v0, v1] (o.getD (0, [])) F ∧ F.Nodup ∧ ∀ b ∈ F, w.heap.size ≤ b
theorem relOut_none {w w' : World} {e : Ending} {o : Option Rd} (ho : o = none) (he : e = .returned (.tuple #[.agg #[.int .i64 0, .slice none 0 0], .bool false])) (hx : ∃ y, w' = ext w y) : RelOut o w e w' := by
  subst ho
  exact ⟨.int .i64 0, .slice none 0 0, [], he, hx, sRel_mk (F := []) ⟨_, rfl, SV.nil⟩, by simp, by simp⟩
def okRow (a : Int) (r : List Int) : Bool := decide ((r.length : Int) = a) && rowV r
theorem rowsIn_step {a : Int} {rows : List (List Int)} {k : Nat} (h : k < rows.length) : rowsIn a (rows.drop k) = (okRow a rows[k] && rowsIn a (rows.drop (k + 1))) := by
  unfold rowsIn
  rw [List.drop_eq_getElem_cons h, List.all_cons]
  rfl
theorem rowsIn_end {a : Int} {rows : List (List Int)} {k : Nat} (h : ¬ k < rows.length) : rowsIn a (rows.drop k) = true := by
  rw [List.drop_eq_nil_of_le (by omega)]; rfl
theorem newR_bad {a : Int} {rows : List (List Int)} (h : rowsIn a rows = false) : newR a rows = none := newR_none.2 (by rw [h]; simp)
theorem newR_eq {a : Int} {rows : List (List Int)} (h : rowsIn a rows = true) : newR a rows = if rowsB a (sortR rows) = true then some (a, sortR rows) else none := by
  unfold newR
  simp [h]
theorem sum_len {m : Nat} : ∀ {l : List (List Int)}, (∀ x ∈ l, x.length ≤ m) → (l.map List.length).sum ≤ m * l.length
  | [], _ => by simp
  | x :: l, h => by
    have h1 := h x (by simp)
    have h2 := sum_len (l := l) fun y hy => h y (by simp [hy])
    rw [List.map_cons, List.sum_cons, List.length_cons, Nat.mul_add]
    omega
set_option maxRecDepth 100000 in
set_option maxHeartbeats 8000000 in
theorem NewRelation_any {a : Int} {A : Option Addr} {c : Nat} {rows : List (List Int)} {w : World} (ha : I64 a) (hx : rows.length ≤ 1000000000) (hcap : rows.length ≤ c) (hxl : ∀ x ∈ rows, x.length ≤ 1000000000) (h1 : RII w A rows) :
    Calls Tryz.prog 97 #[.int .i64 a, .slice A rows.length c] w (RelOut (newR a rows) w) := by
  obtain ⟨ha1, ha2⟩ := ha
  have Hxl := Lib.hid hxl
  clear hxl
  go_enter Tryz.func97, Tryz.ntmps97
  go_upto_region 1 with fail
  refine wp_name ?_
  intro W hW
  have xW : ∃ y, W = ext w y := by rw [hW.out]; exact (by refine x'z ?_; repeat (with_reducible (first | exact x'a _ _ | exact x'b _ | exact x'c (by assumption) | refine x'd ?_ (by assumption) | refine x'e ?_ _ | refine x'f ?_ _ | refine x'g ?_ | refine x'h ?_ ?_ _ | refine x'i ?_ _ | refine x'j ?_ | refine x'k ?_ _ | refine x'l ?_ _ _ | refine x'm ?_ | assumption | (refine x'n ?_; omega) | omega)))
  have RW : BoxAt W w.heap.size #[.int .i64 0, .slice none 0 0] := by rw [hW.out]; exact (by repeat (with_reducible (first | assumption | exact BoxAt.new _ _ _ | apply BoxAt.set2 | refine BoxAt.set2' ?_ (by omega) | apply BoxAt.setP0 | apply BoxAt.setP1 | refine BoxAt.setO ?_ (by omega) | refine BoxAt.alloc ?_ _ | refine BoxAt.drew ?_ | refine BoxAt.toExt ?_ (by assumption))))
  clear hW
  go_wp2_with fail
  go_loopw [11] (fun i wr => ∃ k : Nat, i = .int .i64 k ∧ k ≤ rows.length ∧ Hid (rowsIn a (rows.drop k) = rowsIn a rows) ∧ ∃ y, wr = ext W y) (fun i _ => rows.length - (intOf i).toNat)
  case atStart => exact ⟨0, rfl, by omega, Lib.hid (by simp), refl_ext W⟩
  case round =>
    obtain ⟨k, rfl, hk, Hj, hy⟩ := hrel
    have hyw := trans_ext xW hy
    obtain ⟨l1, a1, a1', f1⟩ := bx2 (RW.toExt hy)
    by_cases hlt : k < rows.length
    · obtain ⟨b, o, A1, c1, rfl, hb, hc, hv⟩ := (h1.toExt hyw).atV hlt
      have lx := Hxl.out rows[k] (List.getElem_mem hlt)
      have e := Hj.out
      rw [rowsIn_step hlt] at e
      obtain ⟨x, hx1⟩ : ∃ x, rows[k] = x := ⟨_, rfl⟩
      rw [hx1] at hc hv lx e
      unfold okRow at e
      obtain ⟨t1, ht1⟩ : ∃ t, decide ((x.length : Int) = a) = t := ⟨_, rfl⟩
      obtain ⟨t2, ht2⟩ : ∃ t, rowV x = t := ⟨_, rfl⟩
      have hq : ((x.length : Int) != a) = !t1 := by rw [← ht1]; by_cases q : (x.length : Int) = a <;> simp [q]
      rw [ht1, ht2] at e
      have T2 := Lib.hid ht2
      have He := Lib.hid e
      clear e ht1 ht2 hx1
      cases t1
      · have HZ := Lib.hid (newR_bad (a := a) (rows := rows) (by rw [← He.out]; rfl))
        go_wp2
        refine bodyPost_ret (v := .tuple #[.agg #[.int .i64 0, .slice none 0 0], .bool false]) (by simp [results, Tryz.results97, go_sem, *]) rfl (relOut_none HZ.out rfl (by refine x'z ?_; repeat (with_reducible (first | exact x'a _ _ | exact x'b _ | exact x'c (by assumption) | refine x'd ?_ (by assumption) | refine x'e ?_ _ | refine x'f ?_ _ | refine x'g ?_ | refine x'h ?_ ?_ _ | refine x'i ?_ _ | refine x'j ?_ | refine x'k ?_ _ | refine x'l ?_ _ _ | refine x'm ?_ | assumption | (refine x'n ?_; omega) | omega))))
      · cases t2
        · have HZ := Lib.hid (newR_bad (a := a) (rows := rows) (by rw [← He.out]; rfl))
          go_wp2_with (go_at_call 115; refine (AreValidValues_any lx hv).mono ?_; rintro e w1 ⟨rfl, rfl⟩; rw [T2.out])
          refine bodyPost_ret (v := .tuple #[.agg #[.int .i64 0, .slice none 0 0], .bool false]) (by simp [results, Tryz.results97, go_sem, *]) rfl (relOut_none HZ.out rfl (by refine x'z ?_; repeat (with_reducible (first | exact x'a _ _ | exact x'b _ | exact x'c (by assumption) | refine x'd ?_ (by assumption) | refine x'e ?_ _ | refine x'f ?_ _ | refine x'g ?_ | refine x'h ?_ ?_ _ | refine x'i ?_ _ | refine x'j ?_ | refine x'k ?_ _ | refine x'l ?_ _ _ | refine x'm ?_ | assumption | (refine x'n ?_; omega) | omega))))
        · go_wp2_with (go_at_call 115; refine (AreValidValues_any lx hv).mono ?_; rintro e w1 ⟨rfl, rfl⟩; rw [T2.out])
          exact ⟨⟨k + 1, by go_num, by omega, Lib.hid (by simpa using He.out), (by refine x'z ?_; repeat (with_reducible (first | exact x'a _ _ | exact x'b _ | exact x'c (by assumption) | refine x'd ?_ (by assumption) | refine x'e ?_ _ | refine x'f ?_ _ | refine x'g ?_ | refine x'h ?_ ?_ _ | refine x'i ?_ _ | refine x'j ?_ | refine x'k ?_ _ | refine x'l ?_ _ _ | refine x'm ?_ | assumption | (refine x'n ?_; omega) | omega)))⟩, by simp [intOf]; omega⟩
    · have HRI := Lib.hid (show rowsIn a rows = true by rw [← Hj.out, rowsIn_end hlt])
      have RB := RW.toExt hy
      have hz0 := RB.1
      clear l1 a1 a1' f1
      go_wp2_with fail
      refine (sorted_any rows.length A c rows wr (Nat.le_refl _) hx hcap Hxl.out (h1.toExt hyw)).mono ?_
      rintro e w1 ⟨v1, F1, rfl, hx1, hS1, hN1, hF1⟩
      obtain ⟨A1, c1, rfl, hc1, _, rv1⟩ := hS1.view (V := vSl 1 vI) (sSl_v sI_v)
      have hsl := sortR_length rows
      have Hsl := Lib.hid (fun x (hx : x ∈ sortR rows) => Hxl.out x (mem_sortR.1 hx))
      have HNR := Lib.hid (newR_eq HRI.out)
      obtain ⟨sr, hsr⟩ : ∃ s, sortR rows = s := ⟨_, rfl⟩
      rw [hsr] at hS1 rv1 hsl Hsl HNR hc1 ⊢
      clear hsr
      have RB1 := RB.toExt hx1
      have hs1x : sr.length ≤ 1000000000 := by omega
      go_upto_region 8 with fail
      refine wp_name ?_
      intro w2 hw2
      have hx2 : ∃ y, w2 = ext w1 y := by rw [hw2.out]; exact (by refine x'z ?_; repeat (with_reducible (first | exact x'a _ _ | exact x'b _ | exact x'c (by assumption) | refine x'd ?_ (by assumption) | refine x'e ?_ _ | refine x'f ?_ _ | refine x'g ?_ | refine x'h ?_ ?_ _ | refine x'i ?_ _ | refine x'j ?_ | refine x'k ?_ _ | refine x'l ?_ _ _ | refine x'm ?_ | assumption | (refine x'n ?_; omega) | omega)))
      have X2 : BoxAt w2 w1.heap.size #[.int .i64 a, .slice A1 sr.length c1] := by rw [hw2.out]; exact (by repeat (with_reducible (first | assumption | exact BoxAt.new _ _ _ | apply BoxAt.set2 | refine BoxAt.set2' ?_ (by omega) | apply BoxAt.setP0 | apply BoxAt.setP1 | refine BoxAt.setO ?_ (by omega) | refine BoxAt.alloc ?_ _ | refine BoxAt.drew ?_ | refine BoxAt.toExt ?_ (by assumption))))
      have R2 := RB1.toExt hx2
      have rv2 := rv1.toExt hx2
      have hz1 : w.heap.size < w1.heap.size := RB1.1
      clear hw2
      obtain ⟨l1, a1, a1', f1⟩ := bx2 X2
      obtain ⟨l2, a2, a2', f2⟩ := bx2 R2
      obtain ⟨t, ht⟩ : ∃ t, rowsB a sr = t := ⟨_, rfl⟩
      have HT := Lib.hid ht
      rw [ht] at HNR
      have HS1 := Lib.hid (hS1.toExt hx2)
      have HN1 := Lib.hid hN1
      have HF1 := Lib.hid hF1
      have hxw : ∃ y, w2 = ext w y := trans_ext hyw (trans_ext hx1 hx2)
      have hzw := size_of_ext hyw
      clear ht hS1 hN1 hF1
      cases t
      · have HZ := Lib.hid (show newR a rows = none by rw [HNR.out]; rfl)
        go_wp2_with (go_at_call 94; refine (IsValidRelation_w hs1x Hsl.out rv2).mono ?_; rintro e w3 ⟨rfl, hx3⟩; rw [HT.out]; obtain ⟨l3, a3, a3', f3⟩ := bx2 (R2.toExt hx3))
        refine bodyPost_ret (v := .tuple #[.agg #[.int .i64 0, .slice none 0 0], .bool false]) (by simp [results, Tryz.results97, go_sem, *]) rfl (relOut_none HZ.out rfl (by refine x'z ?_; repeat (with_reducible (first | exact x'a _ _ | exact x'b _ | exact x'c (by assumption) | refine x'd ?_ (by assumption) | refine x'e ?_ _ | refine x'f ?_ _ | refine x'g ?_ | refine x'h ?_ ?_ _ | refine x'i ?_ _ | refine x'j ?_ | refine x'k ?_ _ | refine x'l ?_ _ _ | refine x'm ?_ | assumption | (refine x'n ?_; omega) | omega))))
      · have HZ := Lib.hid (show newR a rows = some (a, sr) by rw [HNR.out]; rfl)
        go_wp2_with (go_at_call 94; refine (IsValidRelation_w hs1x Hsl.out rv2).mono ?_; rintro e w3 ⟨rfl, hx3⟩; rw [HT.out]; obtain ⟨l3, a3, a3', f3⟩ := bx2 (R2.toExt hx3); obtain ⟨l4, a4, a4', f4⟩ := bx2 (X2.toExt hx3))
        refine bodyPost_ret (v := .tuple #[.agg #[.int .i64 a, .slice A1 sr.length c1], .bool true]) (by simp [results, Tryz.results97, go_sem, *]) rfl ⟨_, _, F1, by rw [HZ.out]; rfl, (by refine x'z ?_; repeat (with_reducible (first | exact x'a _ _ | exact x'b _ | exact x'c (by assumption) | refine x'd ?_ (by assumption) | refine x'e ?_ _ | refine x'f ?_ _ | refine x'g ?_ | refine x'h ?_ ?_ _ | refine x'i ?_ _ | refine x'j ?_ | refine x'k ?_ _ | refine x'l ?_ _ _ | refine x'm ?_ | assumption | (refine x'n ?_; omega) | omega))), ?_, HN1.out, fun b hb => ?_⟩
        · rw [HZ.out]
          refine sRel_mk (OD.chg (E := sII) (G := [w.heap.size]) ⟨_, rfl, HS1.out.toExt hx3⟩ (by repeat (with_reducible (first | exact Chg.refl _ _ | refine Chg.trans0 ?_ (by assumption) | refine Chg.extS ?_ _ | refine Chg.alloc ?_ _ | refine Chg.drew ?_ | refine Chg.setCell ?_ (.inl (by simp)) _))) ?_)
          intro b hb h
          have := HF1.out b hb
          rw [List.mem_singleton.1 h] at this
          omega
        · have := HF1.out b hb
          omega
end Go.Proofs.YtfigcfajkilhiaaGreat
namespace Go.Proofs.YtfigcfajkilhiaaGreat
open Go.RowKit
set_option maxRecDepth 100000 in
set_option maxHeartbeats 16000000 in
theorem LookupRelation_any {A : Option Addr} {c : Nat} {d : Dbd} {name : ByteArray} {w : World} (hd : WDb d) (h1 : RV 3 vTb w A d) :
    Calls Tryz.prog 104 #[.agg #[.slice A d.length c], .string name] w (RelOut (lookD d name) w) := by
  have HD := Lib.hid hd
  have hn := hd.n
  obtain ⟨t, ht⟩ : ∃ t, dbB d = t := ⟨_, rfl⟩
  have HT := Lib.hid ht
  clear hd ht
  go_enter Tryz.func104, Tryz.ntmps104
  go_upto_region 1 with fail
  refine wp_name ?_
  intro W hW
  have xW : ∃ y, W = ext w y := by rw [hW.out]; exact (by refine x'z ?_; repeat (with_reducible (first | exact x'a _ _ | exact x'b _ | exact x'c (by assumption) | refine x'd ?_ (by assumption) | refine x'e ?_ _ | refine x'f ?_ _ | refine x'g ?_ | refine x'h ?_ ?_ _ | refine x'i ?_ _ | refine x'j ?_ | refine x'k ?_ _ | refine x'l ?_ _ _ | refine x'm ?_ | assumption | (refine x'n ?_; omega) | omega)))
  have PW : BoxAt W w.heap.size #[.slice A d.length c] := by rw [hW.out]; exact (by repeat (with_reducible (first | assumption | exact BoxAt.new _ _ _ | apply BoxAt.set10 | apply BoxAt.set2 | refine BoxAt.set2' ?_ (by omega) | apply BoxAt.setP0 | apply BoxAt.setP1 | refine BoxAt.setO ?_ (by omega) | refine BoxAt.alloc ?_ _ | refine BoxAt.drew ?_ | refine BoxAt.toExt ?_ (by assumption))))
  have RW : BoxAt W (w.heap.size + 1) #[.int .i64 0, .slice none 0 0] := by
    rw [hW.out]
    simpa using BoxAt.new (w.alloc (.cells #[.slice A d.length c] 39)) #[.int .i64 0, .slice none 0 0] 58
  obtain ⟨lp, p0, fp⟩ := bx1 PW
  clear hW
  cases t with
  | false =>
    have HZ := Lib.hid (show lookD d name = none by unfold lookD; rw [HT.out]; rfl)
    go_wp2_with (go_at_call 103; refine (IsValidDatabase_w HD.out (h1.toExt xW)).mono ?_; rintro e w1 ⟨rfl, hx1⟩; rw [HT.out]; obtain ⟨lr1, r10, r11, fr1⟩ := bx2 (RW.toExt hx1))
    refine bodyPost_ret (v := .tuple #[.agg #[.int .i64 0, .slice none 0 0], .bool false]) (by simp [results, Tryz.results104, go_sem, *]) rfl (relOut_none HZ.out rfl (by refine x'z ?_; repeat (with_reducible (first | exact x'a _ _ | exact x'b _ | exact x'c (by assumption) | refine x'd ?_ (by assumption) | refine x'e ?_ _ | refine x'f ?_ _ | refine x'g ?_ | refine x'h ?_ ?_ _ | refine x'i ?_ _ | refine x'j ?_ | refine x'k ?_ _ | refine x'l ?_ _ _ | refine x'm ?_ | assumption | (refine x'n ?_; omega) | omega))))
  | true =>
    have HL := Lib.hid (show lookD d name = fndD name d by unfold lookD; rw [HT.out]; rfl)
    go_upto_region 2 with (go_at_call 103; refine (IsValidDatabase_w HD.out (h1.toExt xW)).mono ?_; rintro e w1 ⟨rfl, hx1⟩; rw [HT.out])
    have P1 := PW.toExt hx1
    have R1 := RW.toExt hx1
    have xw1 := trans_ext xW hx1
    obtain ⟨lp1, p10, fp1⟩ := bx1 P1
    clear lp p0 fp PW RW
    go_wp2_with fail
    clear lp1 p10 fp1
    go_loopw [13] (fun i wr => ∃ k : Nat, i = .int .i64 k ∧ k ≤ d.length ∧ (∃ y, wr = ext w1 y) ∧ Hid (fndD name (d.drop k) = fndD name d)) (fun i _ => d.length - (intOf i).toNat)
    case atStart => exact ⟨0, rfl, by omega, refl_ext w1, Lib.hid (by simp)⟩
    case round =>
      obtain ⟨k, rfl, hk, hy, Hj⟩ := hrel
      have hyw := trans_ext xw1 hy
      have R2 := R1.toExt hy
      obtain ⟨lr2, r20, r21, fr2⟩ := bx2 R2
      by_cases hlt : k < d.length
      · obtain ⟨b, o, A1, c1, rfl, hb, hc, hc1, hc2, hvx⟩ := (h1.toExt hyw).atT hlt
        have lx2 := HD.out.rn _ (List.getElem_mem hlt)
        have HXL := Lib.hid (HD.out.rl _ (List.getElem_mem hlt))
        have e := Hj.out
        rw [fndD_step hlt] at e
        have HV := Lib.hid (vII_get (vRel_get hvx).2).2
        obtain ⟨x, hx⟩ : ∃ x, d[k] = x := ⟨_, rfl⟩
        rw [hx] at e hc hc1 hc2 lx2 HXL HV
        have hwz := size_of_ext hyw
        clear hx hvx
        by_cases he : x.1 = name
        · have hbb : (x.1.toList == name.toList) = true := by rw [str_beq, decide_eq_true he]
          rw [if_pos he] at e
          have HZ := Lib.hid (show lookD d name = some x.2 by rw [HL.out, ← e])
          clear e he
          go_wp2_with (go_at_call 120; refine (copyRelation_any lx2 HXL.out (HV.out.toExt (by refine x'z ?_; repeat (with_reducible (first | exact x'a _ _ | exact x'b _ | exact x'c (by assumption) | refine x'd ?_ (by assumption) | refine x'e ?_ _ | refine x'f ?_ _ | refine x'g ?_ | refine x'h ?_ ?_ _ | refine x'i ?_ _ | refine x'j ?_ | refine x'k ?_ _ | refine x'l ?_ _ _ | refine x'm ?_ | assumption | (refine x'n ?_; omega) | omega))))).mono ?_; rintro e w9 ⟨u9, v9, F9, rfl, hx9, hS9, hN9, hF9⟩; obtain ⟨A9, c9, rfl, rfl, _⟩ := sRel_form hS9; have R9 : BoxAt w9 (w.heap.size + 1) #[.int .i64 0, .slice none 0 0] := (by repeat (with_reducible (first | assumption | exact BoxAt.new _ _ _ | apply BoxAt.set2 | refine BoxAt.set2' ?_ (by omega) | apply BoxAt.setP0 | apply BoxAt.setP1 | refine BoxAt.setO ?_ (by omega) | refine BoxAt.alloc ?_ _ | refine BoxAt.drew ?_ | refine BoxAt.toExt ?_ (by assumption)))); obtain ⟨lr9, r90, r91, fr9⟩ := bx2 R9)
          refine bodyPost_ret (v := .tuple #[.agg #[.int .i64 x.2.1, .slice A9 x.2.2.length c9], .bool true]) (by simp [results, Tryz.results104, go_sem, *]) rfl ⟨_, _, F9, by rw [HZ.out]; rfl, (by refine x'z ?_; repeat (with_reducible (first | exact x'a _ _ | exact x'b _ | exact x'c (by assumption) | refine x'd ?_ (by assumption) | refine x'e ?_ _ | refine x'f ?_ _ | refine x'g ?_ | refine x'h ?_ ?_ _ | refine x'i ?_ _ | refine x'j ?_ | refine x'k ?_ _ | refine x'l ?_ _ _ | refine x'm ?_ | assumption | (refine x'n ?_; omega) | omega))), ?_, hN9, ?_⟩
          · rw [HZ.out]
            refine OD.chg (G := [w.heap.size + 1]) hS9 (by repeat (with_reducible (first | exact Chg.refl _ _ | refine Chg.trans0 ?_ (by assumption) | refine Chg.extS ?_ _ | refine Chg.alloc ?_ _ | refine Chg.drew ?_ | refine Chg.setCell ?_ (.inl (by simp)) _))) ?_
            intro b hb h
            have := hF9 b hb
            rw [List.mem_singleton.1 h] at this
            (try simp at this)
            omega
          · intro b hb
            have := hF9 b hb
            (try simp at this)
            omega
        · have hbb : (x.1.toList == name.toList) = false := by rw [str_beq, decide_eq_false he]
          rw [if_neg he] at e
          have HK := Lib.hid e
          clear e he
          go_wp2
          exact ⟨⟨k + 1, by go_num, by omega, (by refine x'z ?_; repeat (with_reducible (first | exact x'a _ _ | exact x'b _ | exact x'c (by assumption) | refine x'd ?_ (by assumption) | refine x'e ?_ _ | refine x'f ?_ _ | refine x'g ?_ | refine x'h ?_ ?_ _ | refine x'i ?_ _ | refine x'j ?_ | refine x'k ?_ _ | refine x'l ?_ _ _ | refine x'm ?_ | assumption | (refine x'n ?_; omega) | omega))), HK⟩, by simp [intOf]; omega⟩
      · have e := Hj.out
        rw [fndD_end hlt] at e
        have HZ := Lib.hid (show lookD d name = none by rw [HL.out, ← e])
        clear e Hj
        go_wp2
        refine bodyPost_ret (v := .tuple #[.agg #[.int .i64 0, .slice none 0 0], .bool false]) (by simp [results, Tryz.results104, go_sem, *]) rfl (relOut_none HZ.out rfl (by refine x'z ?_; repeat (with_reducible (first | exact x'a _ _ | exact x'b _ | exact x'c (by assumption) | refine x'd ?_ (by assumption) | refine x'e ?_ _ | refine x'f ?_ _ | refine x'g ?_ | refine x'h ?_ ?_ _ | refine x'i ?_ _ | refine x'j ?_ | refine x'k ?_ _ | refine x'l ?_ _ _ | refine x'm ?_ | assumption | (refine x'n ?_; omega) | omega))))
set_option maxRecDepth 100000 in
set_option maxHeartbeats 16000000 in
theorem specLookupRelation_any {A : Option Addr} {c : Nat} {d : Dbd} {name : ByteArray} {w : World} (hd : WDb d) (h1 : RV 3 vTb w A d) :
    Calls Tryz.prog 62 #[.agg #[.slice A d.length c], .string name] w (RelOut (lookD d name) w) := by
  have HD := Lib.hid hd
  have hn := hd.n
  obtain ⟨t, ht⟩ : ∃ t, dbB d = t := ⟨_, rfl⟩
  have HT := Lib.hid ht
  have HLf := Lib.hid (fun (h : t = false) => show lookD d name = none by unfold lookD; rw [ht, h]; rfl)
  have HLt := Lib.hid (fun (h : t = true) => show lookD d name = fndD name d by unfold lookD; rw [ht, h]; rfl)
  have HLn := Lib.hid (fun (h : fndD name d = none) => show lookD d name = none by unfold lookD; rw [h]; split <;> rfl)
  clear hd ht
  go_enter Tryz.func62, Tryz.ntmps62
  go_upto_region 1 with fail
  refine wp_name ?_
  intro W hW
  have xW : ∃ y, W = ext w y := by rw [hW.out]; exact (by refine x'z ?_; repeat (with_reducible (first | exact x'a _ _ | exact x'b _ | exact x'c (by assumption) | refine x'd ?_ (by assumption) | refine x'e ?_ _ | refine x'f ?_ _ | refine x'g ?_ | refine x'h ?_ ?_ _ | refine x'i ?_ _ | refine x'j ?_ | refine x'k ?_ _ | refine x'l ?_ _ _ | refine x'm ?_ | assumption | (refine x'n ?_; omega) | omega)))
  have PW : BoxAt W w.heap.size #[.slice A d.length c] := by rw [hW.out]; exact (by repeat (with_reducible (first | assumption | exact BoxAt.new _ _ _ | apply BoxAt.set10 | apply BoxAt.set2 | refine BoxAt.set2' ?_ (by omega) | apply BoxAt.setP0 | apply BoxAt.setP1 | refine BoxAt.setO ?_ (by omega) | refine BoxAt.alloc ?_ _ | refine BoxAt.drew ?_ | refine BoxAt.toExt ?_ (by assumption))))
  have RW : BoxAt W (w.heap.size + 1) #[.int .i64 0, .slice none 0 0] := by
    rw [hW.out]
    simpa using BoxAt.new (w.alloc (.cells #[.slice A d.length c] 39)) #[.int .i64 0, .slice none 0 0] 58
  clear hW
  go_wp2_with fail
  go_loopw [6] (fun i wr => ∃ k : Nat, i = .int .i64 k ∧ k ≤ d.length ∧ (∃ y, wr = ext W y) ∧ Hid (fndD name (d.drop k) = fndD name d)) (fun i _ => d.length - (intOf i).toNat)
  case atStart => exact ⟨0, rfl, by omega, refl_ext W, Lib.hid (by simp)⟩
  case round =>
    obtain ⟨k, rfl, hk, hy, Hj⟩ := hrel
    have hyw := trans_ext xW hy
    have P2 := PW.toExt hy
    have R2 := RW.toExt hy
    obtain ⟨lp2, p20, fp2⟩ := bx1 P2
    by_cases hlt : k < d.length
    · cases t with
      | false =>
        have HZ := Lib.hid (HLf.out rfl)
        go_wp2_with (go_at_call 64; refine (specIsValidDatabase_w HD.out (h1.toExt hyw)).mono ?_; rintro e w1 ⟨rfl, hx1⟩; rw [HT.out]; obtain ⟨lr1, r10, r11, fr1⟩ := bx2 (R2.toExt hx1))
        refine bodyPost_ret (v := .tuple #[.agg #[.int .i64 0, .slice none 0 0], .bool false]) (by simp [results, Tryz.results62, go_sem, *]) rfl (relOut_none HZ.out rfl (by refine x'z ?_; repeat (with_reducible (first | exact x'a _ _ | exact x'b _ | exact x'c (by assumption) | refine x'd ?_ (by assumption) | refine x'e ?_ _ | refine x'f ?_ _ | refine x'g ?_ | refine x'h ?_ ?_ _ | refine x'i ?_ _ | refine x'j ?_ | refine x'k ?_ _ | refine x'l ?_ _ _ | refine x'm ?_ | assumption | (refine x'n ?_; omega) | omega))))
      | true =>
        go_upto_region 4 with (go_at_call 64; refine (specIsValidDatabase_w HD.out (h1.toExt hyw)).mono ?_; rintro e w1 ⟨rfl, hx1⟩; rw [HT.out])
        have hy := trans_ext hy hx1
        have hyw := trans_ext xW hy
        obtain ⟨lp3, p30, fp3⟩ := bx1 (P2.toExt hx1)
        have R3 := R2.toExt hx1
        obtain ⟨lr2, r20, r21, fr2⟩ := bx2 R3
        clear lp2 p20 fp2
        obtain ⟨b, o, A1, c1, rfl, hb, hc, hc1, hc2, hvx⟩ := (h1.toExt hyw).atT hlt
        have lx2 := HD.out.rn _ (List.getElem_mem hlt)
        have HXL := Lib.hid (HD.out.rl _ (List.getElem_mem hlt))
        have e := Hj.out
        rw [fndD_step hlt] at e
        have HV := Lib.hid (vII_get (vRel_get hvx).2).2
        obtain ⟨x, hx⟩ : ∃ x, d[k] = x := ⟨_, rfl⟩
        rw [hx] at e hc hc1 hc2 lx2 HXL HV
        have hwz := size_of_ext hyw
        clear hx hvx
        by_cases he : x.1 = name
        · have hbb : (x.1.toList == name.toList) = true := by rw [str_beq, decide_eq_true he]
          rw [if_pos he] at e
          have HZ := Lib.hid (show lookD d name = some x.2 by rw [HLt.out (by trivial), ← e])
          clear e he
          go_wp2_with (go_at_call 99; refine (l5Copy_any lx2 HXL.out (HV.out.toExt (by refine x'z ?_; repeat (with_reducible (first | exact x'a _ _ | exact x'b _ | exact x'c (by assumption) | refine x'd ?_ (by assumption) | refine x'e ?_ _ | refine x'f ?_ _ | refine x'g ?_ | refine x'h ?_ ?_ _ | refine x'i ?_ _ | refine x'j ?_ | refine x'k ?_ _ | refine x'l ?_ _ _ | refine x'm ?_ | assumption | (refine x'n ?_; omega) | omega))))).mono ?_; rintro e w9 ⟨u9, v9, F9, rfl, hx9, hS9, hN9, hF9⟩; obtain ⟨A9, c9, rfl, rfl, _⟩ := sRel_form hS9; have R9 : BoxAt w9 (w.heap.size + 1) #[.int .i64 0, .slice none 0 0] := (by repeat (with_reducible (first | assumption | exact BoxAt.new _ _ _ | apply BoxAt.set2 | refine BoxAt.set2' ?_ (by omega) | apply BoxAt.setP0 | apply BoxAt.setP1 | refine BoxAt.setO ?_ (by omega) | refine BoxAt.alloc ?_ _ | refine BoxAt.drew ?_ | refine BoxAt.toExt ?_ (by assumption)))); obtain ⟨lr9, r90, r91, fr9⟩ := bx2 R9)
          refine bodyPost_ret (v := .tuple #[.agg #[.int .i64 x.2.1, .slice A9 x.2.2.length c9], .bool true]) (by simp [results, Tryz.results62, go_sem, *]) rfl ⟨_, _, F9, by rw [HZ.out]; rfl, (by refine x'z ?_; repeat (with_reducible (first | exact x'a _ _ | exact x'b _ | exact x'c (by assumption) | refine x'd ?_ (by assumption) | refine x'e ?_ _ | refine x'f ?_ _ | refine x'g ?_ | refine x'h ?_ ?_ _ | refine x'i ?_ _ | refine x'j ?_ | refine x'k ?_ _ | refine x'l ?_ _ _ | refine x'm ?_ | assumption | (refine x'n ?_; omega) | omega))), ?_, hN9, ?_⟩
          · rw [HZ.out]
            refine OD.chg (G := [w.heap.size + 1]) hS9 (by repeat (with_reducible (first | exact Chg.refl _ _ | refine Chg.trans0 ?_ (by assumption) | refine Chg.extS ?_ _ | refine Chg.alloc ?_ _ | refine Chg.drew ?_ | refine Chg.setCell ?_ (.inl (by simp)) _))) ?_
            intro b hb h
            have := hF9 b hb
            rw [List.mem_singleton.1 h] at this
            (try simp at this)
            omega
          · intro b hb
            have := hF9 b hb
            (try simp at this)
            omega
        · have hbb : (x.1.toList == name.toList) = false := by rw [str_beq, decide_eq_false he]
          rw [if_neg he] at e
          have HK := Lib.hid e
          clear e he
          go_wp2
          exact ⟨⟨k + 1, by go_num, by omega, (by refine x'z ?_; repeat (with_reducible (first | exact x'a _ _ | exact x'b _ | exact x'c (by assumption) | refine x'd ?_ (by assumption) | refine x'e ?_ _ | refine x'f ?_ _ | refine x'g ?_ | refine x'h ?_ ?_ _ | refine x'i ?_ _ | refine x'j ?_ | refine x'k ?_ _ | refine x'l ?_ _ _ | refine x'm ?_ | assumption | (refine x'n ?_; omega) | omega))), HK⟩, by simp [intOf]; omega⟩
    · have e := Hj.out
      rw [fndD_end hlt] at e
      have HZ := Lib.hid (HLn.out e.symm)
      obtain ⟨lr2, r20, r21, fr2⟩ := bx2 R2
      clear e Hj
      go_wp2
      refine bodyPost_ret (v := .tuple #[.agg #[.int .i64 0, .slice none 0 0], .bool false]) (by simp [results, Tryz.results62, go_sem, *]) rfl (relOut_none HZ.out rfl (by refine x'z ?_; repeat (with_reducible (first | exact x'a _ _ | exact x'b _ | exact x'c (by assumption) | refine x'd ?_ (by assumption) | refine x'e ?_ _ | refine x'f ?_ _ | refine x'g ?_ | refine x'h ?_ ?_ _ | refine x'i ?_ _ | refine x'j ?_ | refine x'k ?_ _ | refine x'l ?_ _ _ | refine x'm ?_ | assumption | (refine x'n ?_; omega) | omega))))
end Go.Proofs.YtfigcfajkilhiaaGreat
namespace Go.Proofs.YtfigcfajkilhiaaGreat
open Go.RowKit
def fitO (o : Option Rd) (n : Nat) : Bool := match o with | some r => decide (r.1 = (n : Int)) | none => false
theorem atFit_look {d : Dbd} {a : At} {o : Option Rd} (h : lookD d a.1 = o) : atFit d a = fitO o a.2.length := by
  subst h
  rfl
theorem fitL_step {d : Dbd} {l : List At} {k : Nat} (h : k < l.length) : (l.drop k).all (atFit d) = (atFit d l[k] && (l.drop (k + 1)).all (atFit d)) := by
  rw [List.drop_eq_getElem_cons h, List.all_cons]
theorem fitL_end {d : Dbd} {l : List At} {k : Nat} (h : ¬ k < l.length) : (l.drop k).all (atFit d) = true := by
  rw [List.drop_eq_nil_of_le (by omega)]; rfl
def CutR (o : Option Rd) (W : World) (va vb : Value) (wx : World) : Prop := ∃ b A c, va = .pointer (some ⟨b, 0, none⟩) ∧ vb = .bool o.isSome ∧ BoxAt wx b #[.int .i64 (o.getD (0, [])).1, .slice A (o.getD (0, [])).2.length c] ∧ RII wx A (o.getD (0, [])).2 ∧ W.heap.size ≤ b ∧ ∃ y, wx = ext W y
set_option maxRecDepth 100000 in
set_option maxHeartbeats 16000000 in
theorem IsQueryFor_any {A B C : Option Addr} {c e g : Nat} {d : Dbd} {q : Qd} {w : World} (hd : WDb d) (h1 : RV 3 vTb w A d) (hb : BQ q) (h2 : vQ w [.int .i64 q.1, .slice B q.2.1.length e, .slice C q.2.2.length g] q) :
    Calls Tryz.prog 76 #[.agg #[.slice A d.length c], .agg #[.int .i64 q.1, .slice B q.2.1.length e, .slice C q.2.2.length g]] w fun e w' => e = .returned (.bool (iqfB d q)) ∧ ∃ y, w' = ext w y := by
  have HD := Lib.hid hd
  have HB := Lib.hid hb
  have HV := Lib.hid h2
  have h3 := (vAts_get (vQ_get h2).1).2
  have hal := hb.2.1.1
  obtain ⟨t1, ht1⟩ : ∃ t, vqB q = t := ⟨_, rfl⟩
  obtain ⟨t2, ht2⟩ : ∃ t, dbB d = t := ⟨_, rfl⟩
  have HT1 := Lib.hid ht1
  have HT2 := Lib.hid ht2
  have HE := Lib.hid (show iqfB d q = (t1 && t2 && q.2.1.all (atFit d)) by unfold iqfB; rw [ht1, ht2])
  clear hd hb h2 ht1 ht2
  go_enter Tryz.func76, Tryz.ntmps76
  go_upto_region 1 with fail
  refine wp_name ?_
  intro W hW
  have xW : ∃ y, W = ext w y := by rw [hW.out]; exact (by refine x'z ?_; repeat (with_reducible (first | exact x'a _ _ | exact x'b _ | exact x'c (by assumption) | refine x'd ?_ (by assumption) | refine x'e ?_ _ | refine x'f ?_ _ | refine x'g ?_ | refine x'h ?_ ?_ _ | refine x'i ?_ _ | refine x'j ?_ | refine x'k ?_ _ | refine x'l ?_ _ _ | refine x'm ?_ | assumption | (refine x'n ?_; omega) | omega)))
  have PW : BoxAt W w.heap.size #[.slice A d.length c] := by rw [hW.out]; exact (by repeat (with_reducible (first | assumption | exact BoxAt.new _ _ _ | apply BoxAt.set10 | apply BoxAt.set2 | refine BoxAt.set2' ?_ (by omega) | apply BoxAt.setP0 | apply BoxAt.setP1 | refine BoxAt.setO ?_ (by omega) | refine BoxAt.alloc ?_ _ | refine BoxAt.drew ?_ | refine BoxAt.toExt ?_ (by assumption))))
  have QW : BoxAt W (w.heap.size + 1) #[.int .i64 q.1, .slice B q.2.1.length e, .slice C q.2.2.length g] := by
    rw [hW.out]
    simpa using BoxAt.new (w.alloc (.cells #[.slice A d.length c] 39)) #[.int .i64 q.1, .slice B q.2.1.length e, .slice C q.2.2.length g] 43
  obtain ⟨lq, q0, q1, q2, fq⟩ := box3 QW
  clear hW
  cases t1 with
  | false =>
    go_wp2_with (go_at_call 102; refine (IsValidQuery_any HB.out (VD.toExt HV.out xW)).mono ?_; rintro e w1 ⟨rfl, hx1⟩; rw [HT1.out])
    go_ret
    exact ⟨by rw [HE.out]; rfl, (by refine x'z ?_; repeat (with_reducible (first | exact x'a _ _ | exact x'b _ | exact x'c (by assumption) | refine x'd ?_ (by assumption) | refine x'e ?_ _ | refine x'f ?_ _ | refine x'g ?_ | refine x'h ?_ ?_ _ | refine x'i ?_ _ | refine x'j ?_ | refine x'k ?_ _ | refine x'l ?_ _ _ | refine x'm ?_ | assumption | (refine x'n ?_; omega) | omega)))⟩
  | true =>
    cases t2 with
    | false =>
      go_wp2_with (first
        | (go_at_call 102; refine (IsValidQuery_any HB.out (VD.toExt HV.out xW)).mono ?_; rintro e w1 ⟨rfl, hx1⟩; rw [HT1.out]; obtain ⟨lp1, p10, fp1⟩ := bx1 (PW.toExt hx1))
        | (go_at_call 103; refine (IsValidDatabase_w HD.out (h1.toExt (trans_ext xW hx1))).mono ?_; rintro e w2 ⟨rfl, hx2⟩; rw [HT2.out]))
      go_ret
      exact ⟨by rw [HE.out]; rfl, (by refine x'z ?_; repeat (with_reducible (first | exact x'a _ _ | exact x'b _ | exact x'c (by assumption) | refine x'd ?_ (by assumption) | refine x'e ?_ _ | refine x'f ?_ _ | refine x'g ?_ | refine x'h ?_ ?_ _ | refine x'i ?_ _ | refine x'j ?_ | refine x'k ?_ _ | refine x'l ?_ _ _ | refine x'm ?_ | assumption | (refine x'n ?_; omega) | omega)))⟩
    | true =>
      have HE2 := Lib.hid (show iqfB d q = q.2.1.all (atFit d) by rw [HE.out]; rfl)
      go_upto_region 3 with (first
        | (go_at_call 102; refine (IsValidQuery_any HB.out (VD.toExt HV.out xW)).mono ?_; rintro e w1 ⟨rfl, hx1⟩; rw [HT1.out]; obtain ⟨lp1, p10, fp1⟩ := bx1 (PW.toExt hx1))
        | (go_at_call 103; refine (IsValidDatabase_w HD.out (h1.toExt (trans_ext xW hx1))).mono ?_; rintro e w2 ⟨rfl, hx2⟩; rw [HT2.out]))
      have x2 := trans_ext hx1 hx2
      have xw2 := trans_ext xW x2
      have P2 := PW.toExt x2
      have Q2 := QW.toExt x2
      obtain ⟨lq2, q20, q21, q22, fq2⟩ := box3 Q2
      clear lq q0 q1 q2 fq lp1 p10 fp1 PW QW HB HV
      go_wp2_with fail
      clear lq2 q20 q21 q22 fq2
      go_loopw [20] (fun i wr => ∃ k : Nat, i = .int .i64 k ∧ k ≤ q.2.1.length ∧ (∃ y, wr = ext w2 y) ∧ Hid ((q.2.1.drop k).all (atFit d) = q.2.1.all (atFit d))) (fun i _ => q.2.1.length - (intOf i).toNat)
      case atStart => exact ⟨0, rfl, by omega, refl_ext w2, Lib.hid (by simp)⟩
      case round =>
        obtain ⟨k, rfl, hk, hy, Hj⟩ := hrel
        have hyw := trans_ext xw2 hy
        have P3 := P2.toExt hy
        obtain ⟨lp3, p30, fp3⟩ := bx1 P3
        by_cases hlt : k < q.2.1.length
        · obtain ⟨b, o, A1, c1, rfl, hbb, hc, hc1, hv⟩ := (h3.toExt hyw).atA hlt
          have e := Hj.out
          rw [fitL_step hlt] at e
          obtain ⟨x, hx⟩ : ∃ x, q.2.1[k] = x := ⟨_, rfl⟩
          rw [hx] at e hc hc1 hv
          obtain ⟨o, ho⟩ : ∃ o, lookD d x.1 = o := ⟨_, rfl⟩
          have HO := Lib.hid ho
          rw [atFit_look ho] at e
          clear hx ho hv
          cases o with
          | none =>
            have HF := Lib.hid (show q.2.1.all (atFit d) = false by rw [← e]; rfl)
            clear e
            go_wp2_with (go_at_call 104; refine (LookupRelation_any HD.out (h1.toExt (trans_ext hyw (by refine x'z ?_; repeat (with_reducible (first | exact x'a _ _ | exact x'b _ | exact x'c (by assumption) | refine x'd ?_ (by assumption) | refine x'e ?_ _ | refine x'f ?_ _ | refine x'g ?_ | refine x'h ?_ ?_ _ | refine x'i ?_ _ | refine x'j ?_ | refine x'k ?_ _ | refine x'l ?_ _ _ | refine x'm ?_ | assumption | (refine x'n ?_; omega) | omega)))))).mono ?_; rw [HO.out]; rintro e w3 ⟨u0, u1, F3, rfl, hx3, hS3, hN3, hF3⟩; obtain ⟨A3, c3, rfl, rfl, _⟩ := sRel_form hS3)
            go_ret
            exact ⟨by rw [HE2.out, HF.out]; rfl, (by refine x'z ?_; repeat (with_reducible (first | exact x'a _ _ | exact x'b _ | exact x'c (by assumption) | refine x'd ?_ (by assumption) | refine x'e ?_ _ | refine x'f ?_ _ | refine x'g ?_ | refine x'h ?_ ?_ _ | refine x'i ?_ _ | refine x'j ?_ | refine x'k ?_ _ | refine x'l ?_ _ _ | refine x'm ?_ | assumption | (refine x'n ?_; omega) | omega)))⟩
          | some r =>
            by_cases hr : r.1 = (x.2.length : Int)
            · rw [show fitO (some r) x.2.length = true from decide_eq_true hr] at e
              have HK := Lib.hid (show (q.2.1.drop (k + 1)).all (atFit d) = q.2.1.all (atFit d) by rw [← e]; rfl)
              have hne : (r.1 != (x.2.length : Int)) = false := by simpa using hr
              clear e hr
              go_wp2_with (go_at_call 104; refine (LookupRelation_any HD.out (h1.toExt (trans_ext hyw (by refine x'z ?_; repeat (with_reducible (first | exact x'a _ _ | exact x'b _ | exact x'c (by assumption) | refine x'd ?_ (by assumption) | refine x'e ?_ _ | refine x'f ?_ _ | refine x'g ?_ | refine x'h ?_ ?_ _ | refine x'i ?_ _ | refine x'j ?_ | refine x'k ?_ _ | refine x'l ?_ _ _ | refine x'm ?_ | assumption | (refine x'n ?_; omega) | omega)))))).mono ?_; rw [HO.out]; rintro e w3 ⟨u0, u1, F3, rfl, hx3, hS3, hN3, hF3⟩; obtain ⟨A3, c3, rfl, rfl, _⟩ := sRel_form hS3; have T3 : BoxAt w3 wr.heap.size #[.string x.1, .slice A1 x.2.length c1] := (by repeat (with_reducible (first | assumption | exact BoxAt.new _ _ _ | apply BoxAt.set2 | refine BoxAt.set2' ?_ (by omega) | apply BoxAt.setP0 | apply BoxAt.setP1 | refine BoxAt.setO ?_ (by omega) | refine BoxAt.alloc ?_ _ | refine BoxAt.drew ?_ | refine BoxAt.toExt ?_ (by assumption)))); obtain ⟨lt3, t30, t31, ft3⟩ := bx2 T3; simp only [Option.getD_some] at *)
              exact ⟨⟨k + 1, by go_num, by omega, (by refine x'z ?_; repeat (with_reducible (first | exact x'a _ _ | exact x'b _ | exact x'c (by assumption) | refine x'd ?_ (by assumption) | refine x'e ?_ _ | refine x'f ?_ _ | refine x'g ?_ | refine x'h ?_ ?_ _ | refine x'i ?_ _ | refine x'j ?_ | refine x'k ?_ _ | refine x'l ?_ _ _ | refine x'm ?_ | assumption | (refine x'n ?_; omega) | omega))), HK⟩, by simp [intOf]; omega⟩
            · rw [show fitO (some r) x.2.length = false from decide_eq_false hr] at e
              have HF := Lib.hid (show q.2.1.all (atFit d) = false by rw [← e]; rfl)
              have hne : (r.1 != (x.2.length : Int)) = true := by simpa using hr
              clear e hr
              go_wp2_with (go_at_call 104; refine (LookupRelation_any HD.out (h1.toExt (trans_ext hyw (by refine x'z ?_; repeat (with_reducible (first | exact x'a _ _ | exact x'b _ | exact x'c (by assumption) | refine x'd ?_ (by assumption) | refine x'e ?_ _ | refine x'f ?_ _ | refine x'g ?_ | refine x'h ?_ ?_ _ | refine x'i ?_ _ | refine x'j ?_ | refine x'k ?_ _ | refine x'l ?_ _ _ | refine x'm ?_ | assumption | (refine x'n ?_; omega) | omega)))))).mono ?_; rw [HO.out]; rintro e w3 ⟨u0, u1, F3, rfl, hx3, hS3, hN3, hF3⟩; obtain ⟨A3, c3, rfl, rfl, _⟩ := sRel_form hS3; have T3 : BoxAt w3 wr.heap.size #[.string x.1, .slice A1 x.2.length c1] := (by repeat (with_reducible (first | assumption | exact BoxAt.new _ _ _ | apply BoxAt.set2 | refine BoxAt.set2' ?_ (by omega) | apply BoxAt.setP0 | apply BoxAt.setP1 | refine BoxAt.setO ?_ (by omega) | refine BoxAt.alloc ?_ _ | refine BoxAt.drew ?_ | refine BoxAt.toExt ?_ (by assumption)))); obtain ⟨lt3, t30, t31, ft3⟩ := bx2 T3; simp only [Option.getD_some] at *)
              go_ret
              exact ⟨by rw [HE2.out, HF.out]; rfl, (by refine x'z ?_; repeat (with_reducible (first | exact x'a _ _ | exact x'b _ | exact x'c (by assumption) | refine x'd ?_ (by assumption) | refine x'e ?_ _ | refine x'f ?_ _ | refine x'g ?_ | refine x'h ?_ ?_ _ | refine x'i ?_ _ | refine x'j ?_ | refine x'k ?_ _ | refine x'l ?_ _ _ | refine x'm ?_ | assumption | (refine x'n ?_; omega) | omega)))⟩
        · have e := Hj.out
          rw [fitL_end hlt] at e
          have HK := Lib.hid (show iqfB d q = true by rw [HE2.out, ← e])
          clear e Hj
          go_wp2
          go_ret
          exact ⟨by rw [HK.out]; rfl, hyw⟩
set_option maxRecDepth 100000 in
set_option maxHeartbeats 16000000 in
theorem specIsQueryFor_any {A B C : Option Addr} {c e g : Nat} {d : Dbd} {q : Qd} {w : World} (hd : WDb d) (h1 : RV 3 vTb w A d) (hb : BQ q) (h2 : vQ w [.int .i64 q.1, .slice B q.2.1.length e, .slice C q.2.2.length g] q) :
    Calls Tryz.prog 30 #[.agg #[.slice A d.length c], .agg #[.int .i64 q.1, .slice B q.2.1.length e, .slice C q.2.2.length g]] w fun e w' => e = .returned (.bool (iqfB d q)) ∧ ∃ y, w' = ext w y := by
  have HD := Lib.hid hd
  have HB := Lib.hid hb
  have HV := Lib.hid h2
  have h3 := (vAts_get (vQ_get h2).1).2
  have hal := hb.2.1.1
  obtain ⟨t1, ht1⟩ : ∃ t, vqB q = t := ⟨_, rfl⟩
  obtain ⟨t2, ht2⟩ : ∃ t, dbB d = t := ⟨_, rfl⟩
  have HT1 := Lib.hid ht1
  have HT2 := Lib.hid ht2
  have HE := Lib.hid (show iqfB d q = (t1 && t2 && q.2.1.all (atFit d)) by unfold iqfB; rw [ht1, ht2])
  have HF := Lib.hid (fun (h : q.2.1.all (atFit d) = false) => show iqfB d q = false by unfold iqfB; rw [h, Bool.and_false])
  clear hd hb h2 ht1 ht2
  go_enter Tryz.func30, Tryz.ntmps30
  go_upto_region 1 with fail
  refine wp_name ?_
  intro W hW
  have xW : ∃ y, W = ext w y := by rw [hW.out]; exact (by refine x'z ?_; repeat (with_reducible (first | exact x'a _ _ | exact x'b _ | exact x'c (by assumption) | refine x'd ?_ (by assumption) | refine x'e ?_ _ | refine x'f ?_ _ | refine x'g ?_ | refine x'h ?_ ?_ _ | refine x'i ?_ _ | refine x'j ?_ | refine x'k ?_ _ | refine x'l ?_ _ _ | refine x'm ?_ | assumption | (refine x'n ?_; omega) | omega)))
  have PW : BoxAt W w.heap.size #[.slice A d.length c] := by rw [hW.out]; exact (by repeat (with_reducible (first | assumption | exact BoxAt.new _ _ _ | apply BoxAt.set10 | apply BoxAt.set2 | refine BoxAt.set2' ?_ (by omega) | apply BoxAt.setP0 | apply BoxAt.setP1 | refine BoxAt.setO ?_ (by omega) | refine BoxAt.alloc ?_ _ | refine BoxAt.drew ?_ | refine BoxAt.toExt ?_ (by assumption))))
  have QW : BoxAt W (w.heap.size + 1) #[.int .i64 q.1, .slice B q.2.1.length e, .slice C q.2.2.length g] := by
    rw [hW.out]
    simpa using BoxAt.new (w.alloc (.cells #[.slice A d.length c] 39)) #[.int .i64 q.1, .slice B q.2.1.length e, .slice C q.2.2.length g] 43
  clear hW
  go_wp2_with fail
  go_loopw [5] (fun i wr => ∃ k : Nat, i = .int .i64 k ∧ k ≤ q.2.1.length ∧ (∃ y, wr = ext W y) ∧ Hid ((q.2.1.drop k).all (atFit d) = q.2.1.all (atFit d))) (fun i _ => q.2.1.length - (intOf i).toNat)
  case atStart => exact ⟨0, rfl, by omega, refl_ext W, Lib.hid (by simp)⟩
  case round =>
    obtain ⟨k, rfl, hk, hy, Hj⟩ := hrel
    have hyw := trans_ext xW hy
    have P3 := PW.toExt hy
    have Q3 := QW.toExt hy
    obtain ⟨lp3, p30, fp3⟩ := bx1 P3
    obtain ⟨lq3, q30, q31, q32, fq3⟩ := box3 Q3
    by_cases hlt : k < q.2.1.length
    · obtain ⟨b, o, A1, c1, rfl, hbb, hc, hc1, hv⟩ := (h3.toExt hyw).atA hlt
      have e := Hj.out
      rw [fitL_step hlt] at e
      obtain ⟨x, hx⟩ : ∃ x, q.2.1[k] = x := ⟨_, rfl⟩
      rw [hx] at e hc hc1 hv
      obtain ⟨o, ho⟩ : ∃ o, lookD d x.1 = o := ⟨_, rfl⟩
      have HO := Lib.hid ho
      rw [atFit_look ho] at e
      clear hx ho hv
      go_upto_region 4 with fail
      go_cut [6, 7] (CutR o wr)
      case first =>
        go_region_held3 (fun w' => (∀ a : Addr, a.block < wr.heap.size → w'.cell? a = wr.cell? a) ∧ ∃ y, w' = ext wr y) (first | exact heldE (by refine x'z ?_; repeat (with_reducible (first | exact x'a _ _ | exact x'b _ | exact x'c (by assumption) | refine x'd ?_ (by assumption) | refine x'e ?_ _ | refine x'f ?_ _ | refine x'g ?_ | refine x'h ?_ ?_ _ | refine x'i ?_ _ | refine x'j ?_ | refine x'k ?_ _ | refine x'l ?_ _ _ | refine x'm ?_ | assumption | (refine x'n ?_; omega) | omega)))) ((go_at_call 62; refine (specLookupRelation_any HD.out (h1.toExt (trans_ext hyw (by refine x'z ?_; repeat (with_reducible (first | exact x'a _ _ | exact x'b _ | exact x'c (by assumption) | refine x'd ?_ (by assumption) | refine x'e ?_ _ | refine x'f ?_ _ | refine x'g ?_ | refine x'h ?_ ?_ _ | refine x'i ?_ _ | refine x'j ?_ | refine x'k ?_ _ | refine x'l ?_ _ _ | refine x'm ?_ | assumption | (refine x'n ?_; omega) | omega)))))).mono ?_; rw [HO.out]; rintro e w3 ⟨u0, u1, F3, rfl, hx3, hS3, hN3, hF3⟩; obtain ⟨A3, c3, rfl, rfl, hI3⟩ := sRel_form hS3; (first | (have L3 : BoxAt w3 wr.heap.size #[.int .i64 0, .slice none 0 0] := BoxAt.toExt (BoxAt.new wr _ _) hx3; obtain ⟨z1, z2, z3, z4⟩ := bx2 L3) | (have L3 : BoxAt w3 wr.heap.size #[.int .i64 0, .slice none 0 0] := BoxAt.toExt (BoxAt.new wr.drew _ _) hx3; obtain ⟨z1, z2, z3, z4⟩ := bx2 L3) | (have L3 : BoxAt w3 wr.heap.size #[.int .i64 0, .slice none 0 0] := BoxAt.toExt (BoxAt.new wr _ _).drew hx3; obtain ⟨z1, z2, z3, z4⟩ := bx2 L3) | skip)))
        all_goals
          go_wp2_with fail
          go_meet
          have hz3 := size_of_ext hx3
          (first | simp only [World.size_alloc, World.drew] at hz3 hF3 | simp only [World.drew] at hz3 hF3)
          first
            | exact ⟨w3.heap.size, A3, c3, rfl, rfl, BoxAt.new _ _ _, (vII_get (sII_v _ _ _ (OD.toExt hI3 (alloc_ext _ _)))).2, by omega, (by refine x'z ?_; repeat (with_reducible (first | exact x'a _ _ | exact x'b _ | exact x'c (by assumption) | refine x'd ?_ (by assumption) | refine x'e ?_ _ | refine x'f ?_ _ | refine x'g ?_ | refine x'h ?_ ?_ _ | refine x'i ?_ _ | refine x'j ?_ | refine x'k ?_ _ | refine x'l ?_ _ _ | refine x'm ?_ | assumption | (refine x'n ?_; omega) | omega)))⟩
            | exact ⟨wr.heap.size, A3, c3, rfl, rfl, (by repeat (with_reducible (first | assumption | exact BoxAt.new _ _ _ | apply BoxAt.set2 | refine BoxAt.set2' ?_ (by omega) | apply BoxAt.setP0 | apply BoxAt.setP1 | refine BoxAt.setO ?_ (by omega) | refine BoxAt.alloc ?_ _ | refine BoxAt.drew ?_ | refine BoxAt.toExt ?_ (by assumption)))), (vII_get (sII_v _ _ _ (OD.chg (G := [wr.heap.size]) hI3 (by repeat (with_reducible (first | exact Chg.refl _ _ | refine Chg.trans0 ?_ (by assumption) | refine Chg.extS ?_ _ | refine Chg.alloc ?_ _ | refine Chg.drew ?_ | refine Chg.setCell ?_ (.inl (by simp)) _))) (fun x hx hm => by have := hF3 x hx; rw [List.mem_singleton.1 hm] at this; omega)))).2, by omega, (by refine x'z ?_; repeat (with_reducible (first | exact x'a _ _ | exact x'b _ | exact x'c (by assumption) | refine x'd ?_ (by assumption) | refine x'e ?_ _ | refine x'f ?_ _ | refine x'g ?_ | refine x'h ?_ ?_ _ | refine x'i ?_ _ | refine x'j ?_ | refine x'k ?_ _ | refine x'l ?_ _ _ | refine x'm ?_ | assumption | (refine x'n ?_; omega) | omega)))⟩
      obtain ⟨bX, A3, c3, rfl, rfl, BX, hvX, hbX, hxX⟩ := hcut
      obtain ⟨w4, rfl⟩ : ∃ W, W = wc := ⟨_, rfl⟩
      have hyw4 := trans_ext hyw hxX
      have hc4 := cellW hxX hbb hc
      have hc14 := cellW hxX hbb hc1
      have hb4 := ltW hxX hbb
      obtain ⟨lq4, q40, q41, q42, fq4⟩ := box3 (Q3.toExt hxX)
      obtain ⟨lx4, x40, x41, fx4⟩ := bx2 BX
      clear lq3 q30 q31 q32 fq3 lp3 p30 fp3 hc hc1 hbb
      cases o with
      | none =>
        have HF2 := Lib.hid (HF.out (by rw [← e]; rfl))
        clear e
        go_wp2_with fail
        refine wp_region_ext (by kernel_rfl) (by kernel_rfl) ?_
        repeat (go_big_quiet_step (fail))
        refine wpQuiet_nil ?_
        rintro _ ⟨zz, rfl⟩
        go_wp2
        go_ret
        exact ⟨by rw [HF2.out]; rfl, trans_ext hyw4 ⟨_, rfl⟩⟩
      | some r =>
        simp only [Option.getD_some] at x40 x41
        by_cases hr : r.1 = (x.2.length : Int)
        · rw [show fitO (some r) x.2.length = true from decide_eq_true hr] at e
          have HK := Lib.hid (show (q.2.1.drop (k + 1)).all (atFit d) = q.2.1.all (atFit d) by rw [← e]; rfl)
          have hne : (r.1 != (x.2.length : Int)) = false := by simpa using hr
          clear e hr
          go_wp2_with fail
          refine wp_region_ext (by kernel_rfl) (by kernel_rfl) ?_
          repeat (go_big_quiet_step (fail))
          refine wpQuiet_nil ?_
          rintro _ ⟨zz, rfl⟩
          go_wp2
          exact ⟨⟨k + 1, by go_num, by omega, trans_ext (trans_ext hy hxX) ⟨_, rfl⟩, HK⟩, by simp [intOf]; omega⟩
        · rw [show fitO (some r) x.2.length = false from decide_eq_false hr] at e
          have HF2 := Lib.hid (HF.out (by rw [← e]; rfl))
          have hne : (r.1 != (x.2.length : Int)) = true := by simpa using hr
          clear e hr
          go_wp2_with fail
          refine wp_region_ext (by kernel_rfl) (by kernel_rfl) ?_
          repeat (go_big_quiet_step (fail))
          refine wpQuiet_nil ?_
          rintro _ ⟨zz, rfl⟩
          go_wp2
          go_ret
          exact ⟨by rw [HF2.out]; rfl, trans_ext hyw4 ⟨_, rfl⟩⟩
    · have e := Hj.out
      rw [fitL_end hlt] at e
      have HK := Lib.hid (show iqfB d q = (t1 && t2) by rw [HE.out, ← e, Bool.and_true])
      clear e Hj
      cases t1 with
      | false =>
        go_wp2_with (go_at_call 63; refine (specIsValidQuery_any HB.out (VD.toExt HV.out hyw)).mono ?_; rintro e w1 ⟨rfl, hx1⟩; rw [HT1.out])
        go_ret
        exact ⟨by rw [HK.out]; rfl, trans_ext hyw hx1⟩
      | true =>
        cases t2
        all_goals
          go_wp2_with (first
            | (go_at_call 63; refine (specIsValidQuery_any HB.out (VD.toExt HV.out hyw)).mono ?_; rintro e w1 ⟨rfl, hx1⟩; rw [HT1.out]; obtain ⟨lp1, p10, fp1⟩ := bx1 (P3.toExt hx1))
            | (go_at_call 64; refine (specIsValidDatabase_w HD.out (h1.toExt (trans_ext hyw hx1))).mono ?_; rintro e w2 ⟨rfl, hx2⟩; rw [HT2.out]))
          go_ret
          exact ⟨by rw [HK.out]; rfl, trans_ext hyw (trans_ext hx1 hx2)⟩
end Go.Proofs.YtfigcfajkilhiaaGreat
namespace Go.Proofs.YtfigcfajkilhiaaGreat
open Go.RowKit
theorem qok {d : Dbd} {q : Qd} (h : iqfB d q = true) : QOk d q := by
  unfold iqfB at h
  simp only [Bool.and_eq_true] at h
  obtain ⟨⟨h1, h2⟩, h3⟩ := h
  obtain ⟨v1, v2, v3⟩ := vqB_vars h1
  have h4 := h1
  unfold vqB at h4
  simp only [Bool.and_eq_true] at h4
  obtain ⟨⟨⟨⟨_, k2⟩, k3⟩, _⟩, k5⟩ := h4
  have b2 := inB_t k2
  have k3 := (setB_sound k3).1
  refine ⟨v1, v2, h2, by omega, by omega, fun a ha => (List.all_eq_true.1 h3) a ha, v3, fun v h0 hl => ?_, fun v hv => by have := k3 v hv; omega⟩
  unfold coverB mkU at k5
  rw [List.all_eq_true] at k5
  have := k5 (decide ((v.toNat : Int) ∈ seen q.2.1)) (List.mem_map.2 ⟨v.toNat, List.mem_range.2 (by omega), rfl⟩)
  have := of_decide_eq_true this
  rw [Int.toNat_of_nonneg h0] at this
  unfold seen at this
  obtain ⟨a, ha, hv⟩ := List.mem_flatMap.1 this
  exact ⟨a, ha, hv⟩
end Go.Proofs.YtfigcfajkilhiaaGreat
namespace Go.Proofs.YtfigcfajkilhiaaGreat
open Go.RowKit
def Lie {α : Type} (size : Nat) (E : SE α) (w : World) (A : Option Addr) (es : List α) (G : List Nat) : Prop :=
  ∃ cs, elems size E w cs es G ∧ (∀ u ∈ cs, u.oneCell' = true) ∧ (A = none → es = []) ∧ ∀ ad, A = some ad → ∀ j u, cs[j]? = some u → w.cell? (ad.add j) = some u
theorem elems_one1 {α : Type} {E : SE α} {w : World} {size : Nat} (hE1 : ∀ w c d F, E w c d F → ∀ u ∈ c, u.oneCell' = true) : ∀ {vs : List Value} {ds : List α} {F : List Nat}, elems size E w vs ds F → ∀ u ∈ vs, u.oneCell' = true
  | _, [], _, ⟨h, _⟩, u, hu => by subst h; simp at hu
  | _, _ :: _, _, ⟨c, vs', F1, F2, h1, _, h3, h4, _⟩, u, hu => by
    subst h1
    rcases List.mem_append.1 hu with h | h
    · exact hE1 _ _ _ _ h3 u h
    · exact elems_one1 hE1 h4 u h
section
variable {P : Program} {w w' : World} {α : Type} {E : SE α} {te size bytes : Nat}
theorem SV.parts {v : Value} {ds : List α} {F : List Nat} (hE1 : ∀ w c d F, E w c d F → ∀ u ∈ c, u.oneCell' = true) (h : SV te size E w v ds F) (hN : F.Nodup) {k : Nat} (hk : k ≤ ds.length) : ∃ A cap G1 G2, v = .slice A ds.length cap ∧ ds.length ≤ cap ∧ Hid (cap ≤ maxLen) ∧ (A = none → ds = []) ∧
    (∀ b o, A = some ⟨b, o, none⟩ → o = 0) ∧ (∀ ad, A = some ad → ∃ b, ad = ⟨b, 0, none⟩) ∧ (∀ b ∈ G1, b ∈ F) ∧ (∀ b ∈ G2, b ∈ F) ∧ G1.Nodup ∧ G2.Nodup ∧ (∀ b ∈ G1, b ∉ G2) ∧
    Lie size E w A (ds.take k) G1 ∧ (∀ A', (∀ b, A = some ⟨b, 0, none⟩ → A' = some ⟨b, k * size, none⟩) → (A = none → A' = none) → Lie size E w A' (ds.drop k) G2) := by
  obtain ⟨A, cap, rfl, hc1, hc2⟩ := h.form
  obtain ⟨vs, F2, h1, h2, rfl⟩ := h
  have h2' := h2
  rw [← List.take_append_drop k ds] at h2'
  obtain ⟨vs1, vs2, G1, G2, e1, e2, k1, k2⟩ := elems_split h2'
  have hl1 := elems_length k1
  have hl2 := elems_length k2
  rw [List.length_take, Nat.min_eq_left hk] at hl1
  have hNd := (List.nodup_append.1 hN).2.1
  rw [e2] at hNd
  obtain ⟨n1, n2, n3⟩ := List.nodup_append.1 hNd
  have hA : ∀ ad, A = some ad → ∃ b, ad = ⟨b, 0, none⟩ := fun ad e => by
    subst e
    rcases h1.2 with ⟨h9, _⟩ | ⟨g, cap', cur, h9, _⟩
    · injection h9 with h9; cases h9
    · injection h9 with h9; injection h9 with h9; exact ⟨g, h9⟩
  have hA0 : A = none → ds = [] := fun e => by
    subst e
    rcases h1.2 with ⟨_, h9⟩ | ⟨g, cap', cur, h9, _⟩
    · exact List.eq_nil_of_length_eq_zero h9
    · injection h9 with h9; cases h9
  have hcell : ∀ b, A = some ⟨b, 0, none⟩ → ∀ j u, vs[j]? = some u → w.cell? ⟨b, j, none⟩ = some u := fun b e j u hj => by
    subst e
    have hlt := (List.getElem?_eq_some_iff.1 hj).1
    have hvl := elems_length h2
    rw [h1.cellAt j (by omega)]
    exact hj
  have hadd : ∀ b o j, (⟨b, o, none⟩ : Addr).add j = ⟨b, o + j, none⟩ := fun b o j => by
    unfold Addr.add
    split
    · rename_i h; subst h; rfl
    · rfl
  refine ⟨A, cap, G1, G2, rfl, hc1, hc2, hA0, fun b o e => ?_, hA, fun b hb => by rw [e2]; simp [hb], fun b hb => by rw [e2]; simp [hb], n1, n2, fun b hb hb2 => n3 b hb b hb2 rfl, ?_, fun A' hA1 hA2 => ?_⟩
  · obtain ⟨b', e'⟩ := hA _ e
    injection e'
  · refine ⟨vs1, k1, elems_one1 hE1 k1, fun e => by rw [hA0 e]; simp, fun ad e j u hj => ?_⟩
    obtain ⟨b, rfl⟩ := hA ad e
    rw [hadd, Nat.zero_add]
    exact hcell b e j u (by rw [e1, List.getElem?_append_left (List.getElem?_eq_some_iff.1 hj).1]; exact hj)
  · refine ⟨vs2, k2, elems_one1 hE1 k2, fun e => ?_, fun ad e j u hj => ?_⟩
    · cases hq : A with
      | none => rw [hA0 hq]; simp
      | some ad =>
        obtain ⟨b, rfl⟩ := hA ad hq
        rw [hA1 b hq] at e; cases e
    · cases hq : A with
      | none => rw [hA2 hq] at e; cases e
      | some ad' =>
        obtain ⟨b, rfl⟩ := hA ad' hq
        rw [hA1 b hq] at e
        injection e with e
        subst e
        rw [hadd]
        refine hcell b hq _ u ?_
        rw [e1, List.getElem?_append_right (by omega), hl1, Nat.add_sub_cancel_left]
        exact hj
variable [SMono E]
theorem Lie.keep {A : Option Addr} {es : List α} {G : List Nat} (h : Lie size E w A es G) (hG : ∀ b ∈ G, w'.heap[b]? = w.heap[b]?) (hA : ∀ ad, A = some ad → w'.heap[ad.block]? = w.heap[ad.block]?) : Lie size E w' A es G := by
  obtain ⟨cs, h1, h2, h3, h4⟩ := h
  refine ⟨cs, elems_keep h1 hG, h2, h3, fun ad e j u hj => ?_⟩
  have hb : (ad.add j).block = ad.block := by unfold Addr.add; split <;> rfl
  have h9 := hA ad e
  rw [← hb] at h9
  exact (World.cell?_of_block h9).trans (h4 ad e j u hj)
end
theorem SV.swap3 {α : Type} {te : Nat} {w : World} {E : SE α} [SMono E] {ds : List α} {g cap n : Nat} {F G : List Nat} (h : SV te 3 E w (.slice (some ⟨g, 0, none⟩) n cap) ds F) (hn : ds.length = n) (hN : (F ++ G).Nodup) {k : Nat} (hk : k < ds.length) {u v x : Value} {d : α} (hE : E w [u, v, x] d G) :
    ∃ F', SV te 3 E (((w.setCell ⟨g, k * 3, none⟩ u).setCell ⟨g, k * 3 + 1, none⟩ v).setCell ⟨g, k * 3 + 2, none⟩ x) (.slice (some ⟨g, 0, none⟩) n cap) (ds.set k d) F' ∧ Chg [g] w (((w.setCell ⟨g, k * 3, none⟩ u).setCell ⟨g, k * 3 + 1, none⟩ v).setCell ⟨g, k * 3 + 2, none⟩ x) ∧ F'.Nodup ∧ (∀ b ∈ F', b ∈ F ∨ b ∈ G) ∧ g ∈ F := by
  subst hn
  obtain ⟨vs, F2, h1, h2, h3⟩ := h
  have hfp : fpOf (.slice (some ⟨g, 0, none⟩) ds.length cap) = [g] := rfl
  rw [hfp] at h3
  obtain ⟨c, vs1, vs2, G1, G2, Fk, e1, e2, e3, e4, e5, e6, e7⟩ := elems_upd (c' := []) (d' := d) (Fk := []) (w' := w) h2 hk
  subst h3 e4
  have hN' := hN
  rw [List.nodup_append] at hN'
  obtain ⟨m1, m2, m3⟩ := hN'
  rw [List.singleton_append, List.nodup_cons, List.nodup_append, List.nodup_append] at m1
  obtain ⟨n1, n2, ⟨n3, n4, n5⟩, n6⟩ := m1
  have hlen := elems_length h2
  have hm : (k + 1) * 3 ≤ ds.length * 3 := Nat.mul_le_mul_right _ hk
  obtain ⟨s1, t1⟩ := h1.stored (k * 3) u
  obtain ⟨s2, t2⟩ := s1.stored (k * 3 + 1) v
  obtain ⟨s3, t3⟩ := s2.stored (k * 3 + 2) x
  have hC : Chg [g] w (((w.setCell ⟨g, k * 3, none⟩ u).setCell ⟨g, k * 3 + 1, none⟩ v).setCell ⟨g, k * 3 + 2, none⟩ x) := (((Chg.refl [g] w).setCell (.inl (by simp)) u).setCell (.inl (by simp)) v).setCell (.inl (by simp)) x
  have hl1 : vs1.length = k * 3 := e2
  have hvs : ((vs.set (k * 3) u).set (k * 3 + 1) v).set (k * 3 + 2) x = vs1 ++ ([u, v, x] ++ vs2) := by
    match c, e3 with
    | [c0, c1, c2], _ =>
      rw [e1, List.set_append_right _ _ (by omega), List.set_append_right _ _ (by omega), List.set_append_right _ _ (by omega), hl1, Nat.sub_self, show k * 3 + 1 - k * 3 = 1 by omega, show k * 3 + 2 - k * 3 = 2 by omega]
      rfl
  rw [hvs] at s3
  have hkp : ∀ b, b ∈ G1 ++ (Fk ++ G2) ∨ b ∈ G → (((w.setCell ⟨g, k * 3, none⟩ u).setCell ⟨g, k * 3 + 1, none⟩ v).setCell ⟨g, k * 3 + 2, none⟩ x).heap[b]? = w.heap[b]? := fun b hb => by
    refine hC.block b ?_ ?_
    · rcases hb with hb | hb
      · exact elems_lt h2 b hb
      · exact SMono.lt hE b hb
    · intro e
      rw [List.mem_singleton.1 e] at hb
      rcases hb with hb | hb
      · exact n1 hb
      · exact m3 g (by simp) g hb rfl
  refine ⟨[g] ++ (G1 ++ (G ++ G2)), ⟨vs1 ++ ([u, v, x] ++ vs2), G1 ++ (G ++ G2), by rw [List.length_set]; exact s3, ?_, by rw [hfp]⟩, hC, ?_, fun b hb => ?_, by simp⟩
  · rw [set_split hk]
    exact elems_join (elems_keep e6 fun b hb => hkp b (.inl (by simp [hb]))) rfl (SMono.keep hE fun b hb => hkp b (.inr hb)) (elems_keep e7 fun b hb => hkp b (.inl (by simp [hb])))
  · rw [List.singleton_append, List.nodup_cons, List.nodup_append, List.nodup_append]
    refine ⟨?_, n2, ⟨m2, n4, ?_⟩, ?_⟩
    · intro hb
      simp only [List.mem_append] at hb
      rcases hb with hb | hb | hb
      · exact n1 (by simp [hb])
      · exact m3 g (by simp) g hb rfl
      · exact n1 (by simp [hb])
    · intro a ha b hb e
      exact m3 b (by simp [hb]) a ha e.symm
    · intro a ha b hb e
      rcases List.mem_append.1 hb with h | h
      · exact m3 a (by simp [ha]) b h e
      · exact n6 a ha b (by simp [h]) e
  · simp only [List.singleton_append, List.mem_cons, List.mem_append] at hb ⊢
    rcases hb with hb | hb | hb | hb
    · exact .inl (.inl hb)
    · exact .inl (.inr (.inl hb))
    · exact .inr hb
    · exact .inl (.inr (.inr (.inr hb)))
end Go.Proofs.YtfigcfajkilhiaaGreat
namespace Go.Proofs.YtfigcfajkilhiaaGreat
open Go.RowKit
set_option maxRecDepth 100000 in
set_option maxHeartbeats 8000000 in
theorem specNewRelation_any {a : Int} {A : Option Addr} {c : Nat} {rows : List (List Int)} {w : World} (ha : I64 a) (hx : rows.length ≤ 1000000000) (hcap : rows.length ≤ c) (hxl : ∀ x ∈ rows, x.length ≤ 1000000000) (h1 : RII w A rows) :
    Calls Tryz.prog 90 #[.int .i64 a, .slice A rows.length c] w (RelOut (newR a rows) w) := by
  obtain ⟨ha1, ha2⟩ := ha
  have Hxl := Lib.hid hxl
  clear hxl
  go_enter Tryz.func90, Tryz.ntmps90
  go_upto_region 1 with fail
  refine wp_name ?_
  intro W hW
  have xW : ∃ y, W = ext w y := by rw [hW.out]; exact (by refine x'z ?_; repeat (with_reducible (first | exact x'a _ _ | exact x'b _ | exact x'c (by assumption) | refine x'd ?_ (by assumption) | refine x'e ?_ _ | refine x'f ?_ _ | refine x'g ?_ | refine x'h ?_ ?_ _ | refine x'i ?_ _ | refine x'j ?_ | refine x'k ?_ _ | refine x'l ?_ _ _ | refine x'm ?_ | assumption | (refine x'n ?_; omega) | omega)))
  have RW : BoxAt W w.heap.size #[.int .i64 0, .slice none 0 0] := by rw [hW.out]; exact (by repeat (with_reducible (first | assumption | exact BoxAt.new _ _ _ | apply BoxAt.set2 | refine BoxAt.set2' ?_ (by omega) | apply BoxAt.setP0 | apply BoxAt.setP1 | refine BoxAt.setO ?_ (by omega) | refine BoxAt.alloc ?_ _ | refine BoxAt.drew ?_ | refine BoxAt.toExt ?_ (by assumption))))
  clear hW
  go_wp2_with fail
  go_loopw [6] (fun i wr => ∃ k : Nat, i = .int .i64 k ∧ k ≤ rows.length ∧ Hid (rowsIn a (rows.drop k) = rowsIn a rows) ∧ ∃ y, wr = ext W y) (fun i _ => rows.length - (intOf i).toNat)
  case atStart => exact ⟨0, rfl, by omega, Lib.hid (by simp), refl_ext W⟩
  case round =>
    obtain ⟨k, rfl, hk, Hj, hy⟩ := hrel
    have hyw := trans_ext xW hy
    obtain ⟨l1, a1, a1', f1⟩ := bx2 (RW.toExt hy)
    by_cases hlt : k < rows.length
    · obtain ⟨b, o, A1, c1, rfl, hb, hc, hv⟩ := (h1.toExt hyw).atV hlt
      have lx := Hxl.out rows[k] (List.getElem_mem hlt)
      have e := Hj.out
      rw [rowsIn_step hlt] at e
      obtain ⟨x, hx1⟩ : ∃ x, rows[k] = x := ⟨_, rfl⟩
      rw [hx1] at hc hv lx e
      unfold okRow at e
      obtain ⟨t1, ht1⟩ : ∃ t, decide ((x.length : Int) = a) = t := ⟨_, rfl⟩
      obtain ⟨t2, ht2⟩ : ∃ t, rowV x = t := ⟨_, rfl⟩
      have hq : ((x.length : Int) != a) = !t1 := by rw [← ht1]; by_cases q : (x.length : Int) = a <;> simp [q]
      rw [ht1, ht2] at e
      have T2 := Lib.hid ht2
      have He := Lib.hid e
      clear e ht1 ht2 hx1
      cases t1
      · have HZ := Lib.hid (newR_bad (a := a) (rows := rows) (by rw [← He.out]; rfl))
        go_wp2
        refine bodyPost_ret (v := .tuple #[.agg #[.int .i64 0, .slice none 0 0], .bool false]) (by simp [results, Tryz.results90, go_sem, *]) rfl (relOut_none HZ.out rfl (by refine x'z ?_; repeat (with_reducible (first | exact x'a _ _ | exact x'b _ | exact x'c (by assumption) | refine x'd ?_ (by assumption) | refine x'e ?_ _ | refine x'f ?_ _ | refine x'g ?_ | refine x'h ?_ ?_ _ | refine x'i ?_ _ | refine x'j ?_ | refine x'k ?_ _ | refine x'l ?_ _ _ | refine x'm ?_ | assumption | (refine x'n ?_; omega) | omega))))
      · cases t2
        · have HZ := Lib.hid (newR_bad (a := a) (rows := rows) (by rw [← He.out]; rfl))
          go_wp2_with (go_at_call 110; refine (specAreValidValues_any lx hv).mono ?_; rintro e w1 ⟨rfl, rfl⟩; rw [T2.out])
          refine bodyPost_ret (v := .tuple #[.agg #[.int .i64 0, .slice none 0 0], .bool false]) (by simp [results, Tryz.results90, go_sem, *]) rfl (relOut_none HZ.out rfl (by refine x'z ?_; repeat (with_reducible (first | exact x'a _ _ | exact x'b _ | exact x'c (by assumption) | refine x'd ?_ (by assumption) | refine x'e ?_ _ | refine x'f ?_ _ | refine x'g ?_ | refine x'h ?_ ?_ _ | refine x'i ?_ _ | refine x'j ?_ | refine x'k ?_ _ | refine x'l ?_ _ _ | refine x'm ?_ | assumption | (refine x'n ?_; omega) | omega))))
        · go_wp2_with (go_at_call 110; refine (specAreValidValues_any lx hv).mono ?_; rintro e w1 ⟨rfl, rfl⟩; rw [T2.out])
          exact ⟨⟨k + 1, by go_num, by omega, Lib.hid (by simpa using He.out), (by refine x'z ?_; repeat (with_reducible (first | exact x'a _ _ | exact x'b _ | exact x'c (by assumption) | refine x'd ?_ (by assumption) | refine x'e ?_ _ | refine x'f ?_ _ | refine x'g ?_ | refine x'h ?_ ?_ _ | refine x'i ?_ _ | refine x'j ?_ | refine x'k ?_ _ | refine x'l ?_ _ _ | refine x'm ?_ | assumption | (refine x'n ?_; omega) | omega)))⟩, by simp [intOf]; omega⟩
    · have HRI := Lib.hid (show rowsIn a rows = true by rw [← Hj.out, rowsIn_end hlt])
      have RB := RW.toExt hy
      have hz0 := RB.1
      clear l1 a1 a1' f1
      go_wp2_with fail
      refine (l5Sort_any rows.length A c rows wr (Nat.le_refl _) hx hcap Hxl.out (h1.toExt hyw)).mono ?_
      rintro e w1 ⟨A1, c1, rfl, hc1, rv1, hx1⟩
      have hsl := sortR_length rows
      have Hsl := Lib.hid (fun x (hx : x ∈ sortR rows) => Hxl.out x (mem_sortR.1 hx))
      have HNR := Lib.hid (newR_eq HRI.out)
      obtain ⟨sr, hsr⟩ : ∃ s, sortR rows = s := ⟨_, rfl⟩
      rw [hsr] at rv1 hsl Hsl HNR hc1 ⊢
      clear hsr
      have hs1x : sr.length ≤ 1000000000 := by omega
      go_wp2_with fail
      refine (l5Copy_any (z := a) hs1x Hsl.out rv1).mono ?_
      rintro e w1' ⟨u0, u1, F1, rfl, hx1', hS1, hN1, hF1⟩
      obtain ⟨A2, c2, rfl, rfl, hS2⟩ := sRel_form hS1
      have rv2 := (vII_get (sII_v _ _ _ hS2)).2
      have RB1 := RB.toExt (trans_ext hx1 hx1')
      have hzc := size_of_ext hx1
      go_upto_region 7 with fail
      refine wp_name ?_
      intro w2 hw2
      have hx2 : ∃ y, w2 = ext w1' y := by rw [hw2.out]; exact (by refine x'z ?_; repeat (with_reducible (first | exact x'a _ _ | exact x'b _ | exact x'c (by assumption) | refine x'd ?_ (by assumption) | refine x'e ?_ _ | refine x'f ?_ _ | refine x'g ?_ | refine x'h ?_ ?_ _ | refine x'i ?_ _ | refine x'j ?_ | refine x'k ?_ _ | refine x'l ?_ _ _ | refine x'm ?_ | assumption | (refine x'n ?_; omega) | omega)))
      have X2 : BoxAt w2 w1'.heap.size #[.int .i64 a, .slice A2 sr.length c2] := by rw [hw2.out]; exact (by repeat (with_reducible (first | assumption | exact BoxAt.new _ _ _ | apply BoxAt.set2 | refine BoxAt.set2' ?_ (by omega) | apply BoxAt.setP0 | apply BoxAt.setP1 | refine BoxAt.setO ?_ (by omega) | refine BoxAt.alloc ?_ _ | refine BoxAt.drew ?_ | refine BoxAt.toExt ?_ (by assumption))))
      have R2 := RB1.toExt hx2
      have rv3 := rv2.toExt hx2
      have hz1 : w.heap.size < w1'.heap.size := RB1.1
      clear hw2
      obtain ⟨l1, a1, a1', f1⟩ := bx2 X2
      obtain ⟨l2, a2, a2', f2⟩ := bx2 R2
      obtain ⟨t, ht⟩ : ∃ t, rowsB a sr = t := ⟨_, rfl⟩
      have HT := Lib.hid ht
      rw [ht] at HNR
      have HS1 := Lib.hid (OD.toExt hS2 hx2)
      have HN1 := Lib.hid hN1
      have HF1 := Lib.hid hF1
      have hxw : ∃ y, w2 = ext w y := trans_ext hyw (trans_ext hx1 (trans_ext hx1' hx2))
      have hzw := size_of_ext hyw
      clear ht hS1 hS2 hN1 hF1
      cases t
      · have HZ := Lib.hid (show newR a rows = none by rw [HNR.out]; rfl)
        go_wp2_with (go_at_call 92; refine (specIsValidRelation_w hs1x Hsl.out rv3).mono ?_; rintro e w3 ⟨rfl, hx3⟩; rw [HT.out]; obtain ⟨l3, a3, a3', f3⟩ := bx2 (R2.toExt hx3))
        refine bodyPost_ret (v := .tuple #[.agg #[.int .i64 0, .slice none 0 0], .bool false]) (by simp [results, Tryz.results90, go_sem, *]) rfl (relOut_none HZ.out rfl (by refine x'z ?_; repeat (with_reducible (first | exact x'a _ _ | exact x'b _ | exact x'c (by assumption) | refine x'd ?_ (by assumption) | refine x'e ?_ _ | refine x'f ?_ _ | refine x'g ?_ | refine x'h ?_ ?_ _ | refine x'i ?_ _ | refine x'j ?_ | refine x'k ?_ _ | refine x'l ?_ _ _ | refine x'm ?_ | assumption | (refine x'n ?_; omega) | omega))))
      · have HZ := Lib.hid (show newR a rows = some (a, sr) by rw [HNR.out]; rfl)
        go_wp2_with (go_at_call 92; refine (specIsValidRelation_w hs1x Hsl.out rv3).mono ?_; rintro e w3 ⟨rfl, hx3⟩; rw [HT.out]; obtain ⟨l3, a3, a3', f3⟩ := bx2 (R2.toExt hx3); obtain ⟨l4, a4, a4', f4⟩ := bx2 (X2.toExt hx3))
        refine bodyPost_ret (v := .tuple #[.agg #[.int .i64 a, .slice A2 sr.length c2], .bool true]) (by simp [results, Tryz.results90, go_sem, *]) rfl ⟨_, _, F1, by rw [HZ.out]; rfl, (by refine x'z ?_; repeat (with_reducible (first | exact x'a _ _ | exact x'b _ | exact x'c (by assumption) | refine x'd ?_ (by assumption) | refine x'e ?_ _ | refine x'f ?_ _ | refine x'g ?_ | refine x'h ?_ ?_ _ | refine x'i ?_ _ | refine x'j ?_ | refine x'k ?_ _ | refine x'l ?_ _ _ | refine x'm ?_ | assumption | (refine x'n ?_; omega) | omega))), ?_, HN1.out, fun b hb => ?_⟩
        · rw [HZ.out]
          refine sRel_mk (OD.chg (E := sII) (G := [w.heap.size]) (OD.toExt HS1.out hx3) (by repeat (with_reducible (first | exact Chg.refl _ _ | refine Chg.trans0 ?_ (by assumption) | refine Chg.extS ?_ _ | refine Chg.alloc ?_ _ | refine Chg.drew ?_ | refine Chg.setCell ?_ (.inl (by simp)) _))) ?_)
          intro b hb h
          have := HF1.out b hb
          rw [List.mem_singleton.1 h] at this
          omega
        · have := HF1.out b hb
          omega
end Go.Proofs.YtfigcfajkilhiaaGreat
namespace Go.Proofs.YtfigcfajkilhiaaGreat
open Go.RowKit
section
variable {P : Program} {w : World} {α : Type} {E : SE α} [SMono E] {te size bytes : Nat}
end
theorem sRow_1 (w : World) (c : List Value) (d : List Int) (F : List Nat) (h : sRow w c d F) : ∀ u ∈ c, u.oneCell' = true := by
  obtain ⟨v, rfl, h⟩ := h
  obtain ⟨A, cap, rfl, _⟩ := h.form
  simp [Value.oneCell']
theorem SV.whole {te : Nat} {w : World} {A : Option Addr} {n c : Nat} {ds : List (List Int)} {F : List Nat} (h : SV te 1 sRow w (.slice A n c) ds F) (hN : F.Nodup) : ∃ G, Lie 1 sRow w A ds G ∧ G.Nodup ∧ (∀ b ∈ G, b ∈ F) := by
  obtain ⟨A', cap, G1, G2, e, _, _, _, _, _, m1, _, n1, _, _, L1, _⟩ := h.parts (fun w c d F h => sRow_1 w c d F h) hN (k := ds.length) (Nat.le_refl _)
  injection e with e _ _
  subst e
  rw [List.take_length] at L1
  exact ⟨G1, L1, n1, m1⟩
end Go.Proofs.YtfigcfajkilhiaaGreat
