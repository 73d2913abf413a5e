/- Contracts of functions that the statement reaches. -/
import Derived.Deep.RegionLaw
import Derived.Deep.DrawnRows
import Derived.Deep.DeepCutAuto
import Derived.Test.YtfigcfajkilhiaaGreatE17
import Derived.Test.YtfigcfajkilhiaaGreatE05
import Derived.Test.YtfigcfajkilhiaaGreatE14
namespace Go.Proofs.YtfigcfajkilhiaaGreat
open Go.RowKit
def zVR : VRd := ([], 0, [])
def VROut (o : Option VRd) (w : World) (e : Ending) (w' : World) : Prop := ∃ v0 v1 v2 F, e = .returned (.tuple #[.agg #[v0, v1, v2], .bool o.isSome]) ∧ (∃ y, w' = ext w y) ∧ sVR w' [v0, v1, v2] (o.getD zVR) F ∧ F.Nodup ∧ ∀ b ∈ F, w.heap.size ≤ b
theorem sVR_mk {w : World} {v0 v2 : Value} {va : List Int} {z : Int} {rows : List (List Int)} {F G : List Nat} (h : SV 3 1 sI w v0 va F) (h2 : sII w [v2] rows G) : sVR w [v0, .int .i64 z, v2] (va, z, rows) (F ++ G) := sP_mk (d := (va, z, rows)) ⟨_, rfl, h⟩ (sRel_mk h2)
theorem vrOut_none {w w' : World} {e : Ending} {o : Option VRd} (ho : o = none) (he : e = .returned (.tuple #[.agg #[.slice none 0 0, .int .i64 0, .slice none 0 0], .bool false])) (hx : ∃ y, w' = ext w y) : VROut o w e w' := by
  subst ho
  exact ⟨.slice none 0 0, .int .i64 0, .slice none 0 0, [], he, hx, sVR_mk (F := []) (G := []) SV.nil ⟨_, rfl, SV.nil⟩, by simp, by simp⟩
theorem semi_step {va vb : List Int} {ra rb : List (List Int)} {k : Nat} (h : k < ra.length) : semiL va (ra.take (k + 1)) vb rb = semiL va (ra.take k) vb rb ++ (if (rb.any fun s => agreeB va ra[k] vb s) = true then [ra[k]] else []) := by
  unfold semiL
  rw [List.take_succ_eq_append_getElem h, List.filter_append, List.filter_cons, List.filter_nil]
theorem semiL_len {va vb : List Int} {ra rb : List (List Int)} {k : Nat} : (semiL va (ra.take k) vb rb).length ≤ k := Nat.le_trans (List.length_filter_le _ _) (by simp; omega)
def CutX (va : List Int) (ar : Int) (W : World) (v : Value) (wx : World) : Prop := ∃ b A1 c1 F1, v = .pointer (some ⟨b, 0, none⟩) ∧ BoxAt wx b #[.slice A1 va.length c1, .int .i64 ar, .slice none 0 0] ∧ SV 3 1 sI wx (.slice A1 va.length c1) va F1 ∧ (∀ x ∈ F1, W.heap.size ≤ x ∧ x ≠ b) ∧ W.heap.size ≤ b ∧ ∃ y, wx = ext W y
theorem glueO_some {un va r vb s : List Int} (h : un.all (okG va r vb s) = agreeB va r vb s) : (glueO un va r vb s).isSome = agreeB va r vb s := by
  unfold glueO
  rw [h]
  cases agreeB va r vb s <;> rfl
theorem any_snoc {p : List Int → Bool} {l : List (List Int)} {k : Nat} (h : k < l.length) (h1 : (l.take k).any p = false) (h2 : p l[k] = false) : (l.take (k + 1)).any p = false := by
  rw [List.take_succ_eq_append_getElem h, List.any_append, h1]
  simpa using h2
theorem any_hit {p : List Int → Bool} {l : List (List Int)} {k : Nat} (h : k < l.length) (h2 : p l[k] = true) : l.any p = true := List.any_eq_true.2 ⟨_, List.getElem_mem h, h2⟩
set_option maxRecDepth 100000 in
set_option maxHeartbeats 16000000 in
theorem SemiJoin_any {A B A' B' : Option Addr} {a b a' b' : Nat} {d d' : VRd} {w : World} (hb : BVR d) (h : vVR w [.slice A d.1.length a, .int .i64 d.2.1, .slice B d.2.2.length b] d) (hb' : BVR d') (h' : vVR w [.slice A' d'.1.length a', .int .i64 d'.2.1, .slice B' d'.2.2.length b'] d') :
    Calls Tryz.prog 42 #[.agg #[.slice A d.1.length a, .int .i64 d.2.1, .slice B d.2.2.length b], .agg #[.slice A' d'.1.length a', .int .i64 d'.2.1, .slice B' d'.2.2.length b']] w (VROut (semiR d d') w) := by
  obtain ⟨r1, r2, _⟩ := vVR_get h
  obtain ⟨s1, s2, _⟩ := vVR_get h'
  have r3 := (vII_get (vRel_get r2).2).2
  have s3 := (vII_get (vRel_get s2).2).2
  have HVa := Lib.hid h
  have HVb := Lib.hid h'
  have Hba := Lib.hid hb
  have Hbb := Lib.hid hb'
  obtain ⟨t1, ht1⟩ : ∃ t, vrB d = t := ⟨_, rfl⟩
  obtain ⟨t2, ht2⟩ : ∃ t, vrB d' = t := ⟨_, rfl⟩
  have HT1 := Lib.hid ht1
  have HT2 := Lib.hid ht2
  clear h h' hb hb' r2 s2 ht1 ht2
  go_enter Tryz.func42, Tryz.ntmps42
  go_upto_region 1 with fail
  refine wp_name ?_
  intro W hW
  have xW : ∃ y, W = ext w y := by rw [hW.out]; exact (by refine x'z ?_; repeat (with_reducible (first | exact x'a _ _ | exact x'b _ | exact x'c (by assumption) | refine x'd ?_ (by assumption) | refine x'e ?_ _ | refine x'f ?_ _ | refine x'g ?_ | refine x'h ?_ ?_ _ | refine x'i ?_ _ | refine x'j ?_ | refine x'k ?_ _ | refine x'l ?_ _ _ | refine x'm ?_ | assumption | (refine x'n ?_; omega) | omega)))
  have BW0 : BoxAt W (w.heap.size) #[.slice A d.1.length a, .int .i64 d.2.1, .slice B d.2.2.length b] := by rw [hW.out]; refine ⟨?_, fun j => ?_, fun j => ?_⟩ <;> go_simp
  obtain ⟨lW0, bW0, fW0⟩ := BW0
  have cW0_0 : W.cell? ⟨w.heap.size, 0, none⟩ = some (.slice A d.1.length a) := bW0 0
  have cW0_1 : W.cell? ⟨w.heap.size, 1, none⟩ = some (.int .i64 d.2.1) := bW0 1
  have cW0_2 : W.cell? ⟨w.heap.size, 2, none⟩ = some (.slice B d.2.2.length b) := bW0 2
  have BW1 : BoxAt W (w.heap.size + 1) #[.slice A' d'.1.length a', .int .i64 d'.2.1, .slice B' d'.2.2.length b'] := by rw [hW.out]; refine ⟨?_, fun j => ?_, fun j => ?_⟩ <;> go_simp
  obtain ⟨lW1, bW1, fW1⟩ := BW1
  have cW1_0 : W.cell? ⟨w.heap.size + 1, 0, none⟩ = some (.slice A' d'.1.length a') := bW1 0
  have cW1_1 : W.cell? ⟨w.heap.size + 1, 1, none⟩ = some (.int .i64 d'.2.1) := bW1 1
  have cW1_2 : W.cell? ⟨w.heap.size + 1, 2, none⟩ = some (.slice B' d'.2.2.length b') := bW1 2
  have BW2 : BoxAt W (w.heap.size + 1 + 1) #[.slice none 0 0, .int .i64 0, .slice none 0 0] := by rw [hW.out]; refine ⟨?_, fun j => ?_, fun j => ?_⟩ <;> go_simp
  obtain ⟨lW2, bW2, fW2⟩ := BW2
  have cW2_0 : W.cell? ⟨w.heap.size + 1 + 1, 0, none⟩ = some (.slice none 0 0) := bW2 0
  have cW2_1 : W.cell? ⟨w.heap.size + 1 + 1, 1, none⟩ = some (.int .i64 0) := bW2 1
  have cW2_2 : W.cell? ⟨w.heap.size + 1 + 1, 2, none⟩ = some (.slice none 0 0) := bW2 2
  clear hW
  have PW : BoxAt W w.heap.size #[.slice A d.1.length a, .int .i64 d.2.1, .slice B d.2.2.length b] := ⟨lW0, bW0, fW0⟩
  have QW : BoxAt W (w.heap.size + 1) #[.slice A' d'.1.length a', .int .i64 d'.2.1, .slice B' d'.2.2.length b'] := ⟨lW1, bW1, fW1⟩
  have RW : BoxAt W (w.heap.size + 1 + 1) #[.slice none 0 0, .int .i64 0, .slice none 0 0] := ⟨lW2, bW2, fW2⟩
  cases t1 with
  | false =>
    have HZ := Lib.hid (show semiR d d' = none by unfold semiR; rw [HT1.out]; simp)
    go_wp2_with (go_at_call 80; refine (IsValidVarRelation_any Hba.out (VD.toExt HVa.out xW)).mono ?_; rintro e w3 ⟨rfl, hx3⟩; rw [HT1.out]; obtain ⟨l3, a3, a3', a3'', f3⟩ := box3 (RW.toExt hx3))
    refine bodyPost_ret (v := .tuple #[.agg #[.slice none 0 0, .int .i64 0, .slice none 0 0], .bool false]) (by simp [results, Tryz.results42, go_sem, *]) rfl (vrOut_none HZ.out rfl (by refine x'z ?_; repeat (with_reducible (first | exact x'a _ _ | exact x'b _ | exact x'c (by assumption) | refine x'd ?_ (by assumption) | refine x'e ?_ _ | refine x'f ?_ _ | refine x'g ?_ | refine x'h ?_ ?_ _ | refine x'i ?_ _ | refine x'j ?_ | refine x'k ?_ _ | refine x'l ?_ _ _ | refine x'm ?_ | assumption | (refine x'n ?_; omega) | omega))))
  | true =>
    cases t2 with
    | false =>
      have HZ := Lib.hid (show semiR d d' = none by unfold semiR; rw [HT2.out]; simp)
      go_wp2_with (first
        | (go_at_call 80; with_reducible refine (IsValidVarRelation_any Hba.out (VD.toExt HVa.out ?_)).mono ?_; (focus (exact xW)); rintro e w3 ⟨rfl, hx3⟩; rw [HT1.out]; obtain ⟨l3, a3, a3', a3'', f3⟩ := box3 (QW.toExt hx3))
        | (go_at_call 80; with_reducible refine (IsValidVarRelation_any Hbb.out (VD.toExt HVb.out ?_)).mono ?_; (focus (exact (trans_ext xW hx3))); rintro e w4 ⟨rfl, hx4⟩; rw [HT2.out]; obtain ⟨l4, a4, a4', a4'', f4⟩ := box3 (RW.toExt (trans_ext hx3 hx4))))
      refine bodyPost_ret (v := .tuple #[.agg #[.slice none 0 0, .int .i64 0, .slice none 0 0], .bool false]) (by simp [results, Tryz.results42, go_sem, *]) rfl (vrOut_none HZ.out rfl (by refine x'z ?_; repeat (with_reducible (first | exact x'a _ _ | exact x'b _ | exact x'c (by assumption) | refine x'd ?_ (by assumption) | refine x'e ?_ _ | refine x'f ?_ _ | refine x'g ?_ | refine x'h ?_ ?_ _ | refine x'i ?_ _ | refine x'j ?_ | refine x'k ?_ _ | refine x'l ?_ _ _ | refine x'm ?_ | assumption | (refine x'n ?_; omega) | omega))))
    | true =>
      have HA := Lib.hid (vrB_iff.1 HT1.out)
      have HB := Lib.hid (vrB_iff.1 HT2.out)
      go_upto_region 3 with (first
        | (go_at_call 80; with_reducible refine (IsValidVarRelation_any Hba.out (VD.toExt HVa.out ?_)).mono ?_; (focus (exact xW)); rintro e w3 ⟨rfl, hx3⟩; rw [HT1.out]; obtain ⟨l3, a3, a3', a3'', f3⟩ := box3 (QW.toExt hx3))
        | (go_at_call 80; with_reducible refine (IsValidVarRelation_any Hbb.out (VD.toExt HVb.out ?_)).mono ?_; (focus (exact (trans_ext xW hx3))); rintro e w4 ⟨rfl, hx4⟩; rw [HT2.out]))
      have x4 := trans_ext hx3 hx4
      have xw4 := trans_ext xW x4
      have P4 := PW.toExt x4
      have Q4 := QW.toExt x4
      have R4 := RW.toExt x4
      obtain ⟨lp, p0, p1, p2, fp⟩ := box3 P4
      have hva5 : d.1.length ≤ 5 := HA.out.len
      have hvb5 : d'.1.length ≤ 5 := HB.out.len
      clear PW QW RW lW0 bW0 fW0 cW0_0 cW0_1 cW0_2 lW1 bW1 fW1 cW1_0 cW1_1 cW1_2 lW2 bW2 fW2 cW2_0 cW2_1 cW2_2 l3 a3 a3' a3'' f3 xW hx3 hx4
      go_cut [6] (CutX d.1 d.2.1 w4)
      case first =>
        go_region_held3 (fun w' => (∀ a : Addr, a.block < w4.heap.size → w'.cell? a = w4.cell? a) ∧ ∃ y, w' = ext w4 y) (first | exact heldE (by refine x'z ?_; repeat (with_reducible (first | exact x'a _ _ | exact x'b _ | exact x'c (by assumption) | refine x'd ?_ (by assumption) | refine x'e ?_ _ | refine x'f ?_ _ | refine x'g ?_ | refine x'h ?_ ?_ _ | refine x'i ?_ _ | refine x'j ?_ | refine x'k ?_ _ | refine x'l ?_ _ _ | refine x'm ?_ | assumption | (refine x'n ?_; omega) | omega)))) ((go_at_call 81; refine (copyInts_v (by omega) (r1.toExt (trans_ext xw4 (by refine x'z ?_; repeat (with_reducible (first | exact x'a _ _ | exact x'b _ | exact x'c (by assumption) | refine x'd ?_ (by assumption) | refine x'e ?_ _ | refine x'f ?_ _ | refine x'g ?_ | refine x'h ?_ ?_ _ | refine x'i ?_ _ | refine x'j ?_ | refine x'k ?_ _ | refine x'l ?_ _ _ | refine x'm ?_ | assumption | (refine x'n ?_; omega) | omega)))))).mono ?_; rintro e w5 ⟨v1, F1, rfl, hx5, hS1, hF1⟩; obtain ⟨A1, c1, rfl, _⟩ := hS1.form; try (obtain ⟨l6, b6, b6', b6'', f6⟩ := box3 (BoxAt.toExt (BoxAt.new w4 _ _).drew hx5))))
        all_goals
          go_wp2_with fail
          go_meet
          have hz5 := size_of_ext hx5
          have hlt1 := hS1.lt
          simp only [World.size_alloc, World.drew] at hz5 hF1
          first
            | exact ⟨w5.heap.size, A1, c1, F1, rfl, BoxAt.new _ _ _, hS1.toExt (alloc_ext _ _), fun x hx => ⟨hF1 x hx, by have := hlt1 x hx; omega⟩, size_of_ext (by refine x'z ?_; repeat (with_reducible (first | exact x'a _ _ | exact x'b _ | exact x'c (by assumption) | refine x'd ?_ (by assumption) | refine x'e ?_ _ | refine x'f ?_ _ | refine x'g ?_ | refine x'h ?_ ?_ _ | refine x'i ?_ _ | refine x'j ?_ | refine x'k ?_ _ | refine x'l ?_ _ _ | refine x'm ?_ | assumption | (refine x'n ?_; omega) | omega))), (by refine x'z ?_; repeat (with_reducible (first | exact x'a _ _ | exact x'b _ | exact x'c (by assumption) | refine x'd ?_ (by assumption) | refine x'e ?_ _ | refine x'f ?_ _ | refine x'g ?_ | refine x'h ?_ ?_ _ | refine x'i ?_ _ | refine x'j ?_ | refine x'k ?_ _ | refine x'l ?_ _ _ | refine x'm ?_ | assumption | (refine x'n ?_; omega) | omega)))⟩
            | exact ⟨w4.heap.size, A1, c1, F1, rfl, (by repeat (with_reducible (first | assumption | exact BoxAt.new _ _ _ | apply BoxAt.set3 | refine BoxAt.set3' ?_ (by omega) | apply BoxAt.set30 | apply BoxAt.set31 | apply BoxAt.set32 | apply BoxAt.set2 | refine BoxAt.set2' ?_ (by omega) | apply BoxAt.setP0 | apply BoxAt.setP1 | refine BoxAt.setO ?_ (by omega) | refine BoxAt.alloc ?_ _ | refine BoxAt.drew ?_ | refine BoxAt.toExt ?_ (by assumption)))), hS1.chg (G := [w4.heap.size]) (by repeat (with_reducible (first | exact Chg.refl _ _ | refine Chg.trans0 ?_ (by assumption) | refine Chg.extS ?_ _ | refine Chg.alloc ?_ _ | refine Chg.drew ?_ | refine Chg.setCell ?_ (.inl (by simp)) _))) (fun x hx hm => by have := hF1 x hx; rw [List.mem_singleton.1 hm] at this; omega), fun x hx => by have := hF1 x hx; omega, Nat.le_refl _, (by refine x'z ?_; repeat (with_reducible (first | exact x'a _ _ | exact x'b _ | exact x'c (by assumption) | refine x'd ?_ (by assumption) | refine x'e ?_ _ | refine x'f ?_ _ | refine x'g ?_ | refine x'h ?_ ?_ _ | refine x'i ?_ _ | refine x'j ?_ | refine x'k ?_ _ | refine x'l ?_ _ _ | refine x'm ?_ | assumption | (refine x'n ?_; omega) | omega)))⟩
      obtain ⟨bX, A1, c1, F1, rfl, BX, hSv, hF1, hbX, hxX⟩ := hcut
      obtain ⟨W5, rfl⟩ : ∃ W, W = wc := ⟨_, rfl⟩
      have HF1 := Lib.hid hF1
      clear hF1
      have P5 := P4.toExt hxX
      have Q5 := Q4.toExt hxX
      have R5 := R4.toExt hxX
      have xw5 := trans_ext xw4 hxX
      have hw4s := R4.1
      clear lp p0 p1 p2 fp P4 Q4 R4
      obtain ⟨lp, p0, p1, p2, fp⟩ := box3 P5
      obtain ⟨lq, q0, q1, q2, fq⟩ := box3 Q5
      go_wp2_with fail
      refine (unite_v (by omega) (r1.toExt xw5) (by omega) (s1.toExt xw5)).mono ?_
      rintro e W6 ⟨vu, Fu, rfl, hx6, hSu, hFu⟩
      have HFu := Lib.hid hFu
      clear hFu
      obtain ⟨Au, cu, rfl, _⟩ := hSu.form
      have hun := uniL_length d'.1 d.1
      have Hun := Lib.hid (fun v (hv : v ∈ uniL d.1 d'.1) => mem_uniL.1 hv)
      have Hag := Lib.hid (fun r s => okG_agree (un := uniL d.1 d'.1) (va := d.1) (r := r) (vb := d'.1) (s := s) (fun v => mem_uniL))
      obtain ⟨un, hune⟩ : ∃ u, uniL d.1 d'.1 = u := ⟨_, rfl⟩
      rw [hune] at hSu hun Hun Hag
      have P6 := P5.toExt hx6
      have Q6 := Q5.toExt hx6
      have R6 := R5.toExt hx6
      have X6 := BX.toExt hx6
      have hSv6 := hSv.toExt hx6
      have xw6 := trans_ext xw5 hx6
      have hW56 := size_of_ext hx6
      have hbW5 : bX < W5.heap.size := BX.1
      have hXW : bX < W6.heap.size := X6.1
      have hbXw : w.heap.size + 1 + 1 < bX := by omega
      have hunx : un.length ≤ 10 := by omega
      have HZ := Lib.hid (show semiR d d' = some (d.1, d.2.1, semiL d.1 d.2.2 d'.1 d'.2.2) by unfold semiR; rw [if_pos ⟨HT1.out, HT2.out⟩])
      have hra := HA.out.cnt
      have hrb := HB.out.cnt
      have HAl := Lib.hid HA.out.rl
      have HBl := Lib.hid HB.out.rl
      rw [hune] at *
      clear hune lp p0 p1 p2 fp lq q0 q1 q2 fq P5 Q5 R5 BX hSv HT1 HT2 HVa HVb Hba Hbb HA HB
      have hXX := X6
      obtain ⟨lx6, x60, x61, x62, fx6⟩ := box3 X6
      obtain ⟨lp6, p60, p61, p62, fp6⟩ := box3 P6
      go_wp2_with fail
      go_loopw [40] (fun i wr => ∃ (k : Nat) (A3 : Option Addr) (c3 : Nat) (F : List Nat), i = .int .i64 k ∧ k ≤ d.2.2.length ∧ BoxAt wr bX #[.slice A1 d.1.length c1, .int .i64 d.2.1, .slice A3 (semiL d.1 (d.2.2.take k) d'.1 d'.2.2).length c3] ∧ SV 26 1 sRow wr (.slice A3 (semiL d.1 (d.2.2.take k) d'.1 d'.2.2).length c3) (semiL d.1 (d.2.2.take k) d'.1 d'.2.2) F ∧ Hid F.Nodup ∧ Hid (∀ x ∈ F, W6.heap.size ≤ x) ∧ Chg [bX] W6 wr) (fun i _ => d.2.2.length - (intOf i).toNat)
      case atStart => exact ⟨0, none, 0, [], rfl, by omega, by simpa [semiL] using X6, by simpa [semiL] using SV.nil, Lib.hid (by simp), Lib.hid (by simp), Chg.refl _ _⟩
      case round =>
        obtain ⟨k, A3, c3, F, rfl, hk, hB, hS, HN, HF, hC⟩ := hrel
        clear lx6 x60 x61 x62 fx6 lp6 p60 p61 p62 fp6 hXX
        have hw : ∃ y, wr = ext w y := hC.isExt xw6 (by simp; omega)
        have P7 := P6.chg hC (by simp; omega)
        have Q7 := Q6.chg hC (by simp; omega)
        have R7 := R6.chg hC (by simp; omega)
        by_cases hlt : k < d.2.2.length
        · obtain ⟨br, orr, A4, c4, rfl, hbr, hcr, hvr⟩ := (r3.toExt hw).atV hlt
          have lr := HAl.out _ (List.getElem_mem hlt)
          have Hst := Lib.hid (semi_step (va := d.1) (vb := d'.1) (rb := d'.2.2) hlt)
          have hlk : (semiL d.1 (d.2.2.take k) d'.1 d'.2.2).length + 1 ≤ 2000000000 := by have := semiL_len (va := d.1) (vb := d'.1) (ra := d.2.2) (rb := d'.2.2) (k := k); omega
          obtain ⟨r, hr⟩ : ∃ r, d.2.2[k] = r := ⟨_, rfl⟩
          rw [hr] at hcr hvr lr Hst
          obtain ⟨sl, hsl⟩ : ∃ l, semiL d.1 (d.2.2.take k) d'.1 d'.2.2 = l := ⟨_, rfl⟩
          rw [hsl] at Hst hlk hB hS
          have HLR := Lib.hid lr
          clear hr hsl lr
          obtain ⟨lp7, p70, p71, p72, fp7⟩ := box3 P7
          obtain ⟨lq7, q70, q71, q72, fq7⟩ := box3 Q7
          have HB := Lib.hid hB
          have HS := Lib.hid hS
          have HC := Lib.hid hC
          have HSU := Lib.hid (hSu.chg hC (fun b hb h => by have := HFu.out b hb; rw [List.mem_singleton.1 h] at this; omega))
          have HSlt := Lib.hid hS.lt
          have hCs := hC.size
          have hbXr : bX < wr.heap.size := hB.1
          have hXF : bX ∉ F := fun h => by have := HF.out bX h; omega
          have HP7 := Lib.hid P7
          have HQ7 := Lib.hid Q7
          clear hB hS hC P7 Q7 R7
          obtain ⟨wo, rfl⟩ : ∃ wo : World, wo = wr := ⟨_, rfl⟩
          go_wp2_with fail
          go_loopw [48] (fun j wi => ∃ k2 : Nat, j = .int .i64 k2 ∧ k2 ≤ d'.2.2.length ∧ Hid (((d'.2.2.take k2).any fun s => agreeB d.1 r d'.1 s) = false) ∧ ∃ y, wi = ext wo y) (fun j _ => d'.2.2.length - (intOf j).toNat)
          case atStart => exact ⟨0, rfl, by omega, Lib.hid (by simp), refl_ext wo⟩
          case round =>
            obtain ⟨k2, rfl, hk2, HAN, hyi⟩ := hrel
            have hwi := trans_ext hw hyi
            obtain ⟨lp8, p80, p81, p82, fp8⟩ := box3 (HP7.out.toExt hyi)
            obtain ⟨lq8, q80, q81, q82, fq8⟩ := box3 (HQ7.out.toExt hyi)
            by_cases hlt2 : k2 < d'.2.2.length
            · obtain ⟨bs, os, A5, c5, rfl, hbs, hcs, hvs⟩ := (s3.toExt hwi).atV hlt2
              have ls := HBl.out _ (List.getElem_mem hlt2)
              have HAS := Lib.hid (fun (h : agreeB d.1 r d'.1 d'.2.2[k2] = false) => any_snoc hlt2 HAN.out h)
              have HAY := Lib.hid (fun (h : agreeB d.1 r d'.1 d'.2.2[k2] = true) => any_hit hlt2 h)
              obtain ⟨s, hs⟩ : ∃ s, d'.2.2[k2] = s := ⟨_, rfl⟩
              rw [hs] at hcs hvs ls HAS HAY
              have HLS := Lib.hid ls
              clear ls
              obtain ⟨o, ho⟩ : ∃ o, glueO un d.1 r d'.1 s = o := ⟨_, rfl⟩
              have HG := Lib.hid ho
              have hos : o.isSome = agreeB d.1 r d'.1 s := by rw [← ho]; exact glueO_some (Hag.out r s)
              obtain ⟨t, ht⟩ : ∃ t, agreeB d.1 r d'.1 s = t := ⟨_, rfl⟩
              rw [ht] at hos HAS HAY
              have HOS := Lib.hid hos
              have hruw := (HSU.out.toExt hyi).toView sI_v
              clear hs ho hos ht
              cases t with
              | false =>
                have HAS2 := Lib.hid (HAS.out rfl)
                go_wp2_with (go_at_call 83; refine (glue_any (by omega) hruw (by omega) (r1.toExt hwi) HLR.out (hvr.toExt hyi) (by omega) (s1.toExt hwi) HLS.out hvs Hun.out).mono ?_; rw [HG.out]; rintro e w8 ⟨vg, Fg, rfl, hx8, hSg, hFg⟩; rw [HOS.out])
                exact ⟨⟨k2 + 1, by go_num, by omega, Lib.hid HAS2.out, trans_ext hyi hx8⟩, by simp [intOf]; omega⟩
              | true =>
                have HST := Lib.hid (show semiL d.1 (d.2.2.take (k + 1)) d'.1 d'.2.2 = sl ++ [r] by rw [Hst.out, if_pos (HAY.out rfl)])
                go_upto_region 13 with (go_at_call 83; refine (glue_any (by omega) hruw (by omega) (r1.toExt hwi) HLR.out (hvr.toExt hyi) (by omega) (s1.toExt hwi) HLS.out hvs Hun.out).mono ?_; rw [HG.out]; rintro e w8 ⟨vg, Fg, rfl, hx8, hSg, hFg⟩; rw [HOS.out])
                have B8 := HB.out.toExt (trans_ext hyi hx8)
                obtain ⟨l8, b80, b81, b82, f8⟩ := box3 B8
                have hy8 := trans_ext hyi hx8
                have HS8 := Lib.hid (HS.out.toExt hy8)
                have hbX8 : bX < w8.heap.size := B8.1
                have hz8 := size_of_ext hy8
                have HR := Lib.hid (hvr.toExt hy8)
                have HB8 := Lib.hid B8
                have HFl8 : Hid (∀ b ∈ F, b < w8.drew.heap.size) := Lib.hid (fun b hb => Nat.lt_of_lt_of_le (HSlt.out b hb) (by simpa using hz8))
                have hrl : r.length ≤ 1000000000 := by rw [HLR.out]; omega
                clear hSg hFg B8 hruw lp8 p80 p81 p82 fp8 lq8 q80 q81 q82 fq8
                go_region_law (first
                  | (refine step_appB (E := sRow) (d := r) (G := F9) (cs := #[.slice A9 r.length c9]) (by rfl) _ _ _ (by rfl) tIIr (by rfl) (by rfl) (by exact BoxAt.new _ _ _) ⟨_, rfl, hS9.toExt (alloc_ext _ _)⟩ (by rfl) (by simp [Value.oneCell']) (SA9.toExt (alloc_ext _ _)) hNN (by omega) (by omega) ?_; intro v7 w7 F7 hS7 hC7 hN7 hF7; obtain ⟨A7, c7, rfl, _, _⟩ := hS7.form; have B7 := (B9.alloc (.cells #[.slice A9 r.length c9] 26)).chg hC7 hXF; obtain ⟨l7, k7, k7', k7'', f7⟩ := box3 B7)
                  | (rw [if_pos (by simp [Region.wanted])]; go_wp2_with (go_at_call 81; refine (copyInts_v hrl (HR.out.toExt (by refine x'z ?_; repeat (with_reducible (first | exact x'a _ _ | exact x'b _ | exact x'c (by assumption) | refine x'd ?_ (by assumption) | refine x'e ?_ _ | refine x'f ?_ _ | refine x'g ?_ | refine x'h ?_ ?_ _ | refine x'i ?_ _ | refine x'j ?_ | refine x'k ?_ _ | refine x'l ?_ _ _ | refine x'm ?_ | assumption | (refine x'n ?_; omega) | omega))))).mono ?_; rintro e w9 ⟨v9, F9, rfl, hx9, hS9, hF9⟩; obtain ⟨A9, c9, rfl, _, _⟩ := hS9.form; have B9 := HB8.out.drew.toExt hx9; obtain ⟨l9, k9, k9', k9'', f9⟩ := box3 B9; have SA9 := (HS8.out.toExt (drew_ext w8)).toExt hx9; have hz9 := size_of_ext hx9; have hNN := nodup_more HN.out hS9.nodup HFl8.out hF9)))
                all_goals
                  have hCa := (((((HC.out.trans0 hy8).drew).trans0 hx9).alloc (.cells #[.slice A9 r.length c9] 26)).trans hC7 (fun x hx => .inr (HF.out x hx))).setCell (p := ⟨bX, 2, none⟩) (.inl (by simp)) (.slice A7 (sl ++ [r]).length c7)
                  have hF7n : ∀ b ∈ F7, W6.heap.size ≤ b := fun b hb => by
                    rcases hF7 b hb with h | h | h
                    · exact HF.out b h
                    · have := hF9 b h; simp at this hz8; omega
                    · rw [World.size_alloc] at h; simp at hz9 hz8; omega
                  have hSf := hS7.chg ((Chg.refl [bX] w7).setCell (p := ⟨bX, 2, none⟩) (.inl (by simp)) (.slice A7 (sl ++ [r]).length c7)) (fun b hb h => by have := hF7n b hb; rw [List.mem_singleton.1 h] at this; omega)
                  have hBf := B7.set32 (u := .slice A7 (sl ++ [r]).length c7)
                  have hl1 : (sl ++ [r]).length = sl.length + 1 := by simp
                  rw [hl1] at hCa hSf hBf
                  have HL1 := Lib.hid hl1
                  clear hl1
                  have HH := Lib.hid (And.intro hSf (And.intro hBf (And.intro hCa hF7n)))
                  have HN7 := Lib.hid hN7
                  clear hCa hF7n hSf hBf hS7 hC7 hN7 hF7 B7 SA9 hS9 hF9 B9
                  go_wp2
                  exact ⟨⟨k + 1, A7, c7, F7, by go_num, by omega, by rw [HST.out, HL1.out]; exact HH.out.2.1, by rw [HST.out, HL1.out]; exact HH.out.1, Lib.hid HN7.out, Lib.hid HH.out.2.2.2, HH.out.2.2.1⟩, by simp [intOf]; omega⟩
            · have HST := Lib.hid (show semiL d.1 (d.2.2.take (k + 1)) d'.1 d'.2.2 = sl by rw [Hst.out, if_neg (by have := HAN.out; rw [List.take_of_length_le (by omega)] at this; simp [this]), List.append_nil])
              go_wp2
              exact ⟨⟨k + 1, A3, c3, F, by go_num, by omega, by rw [HST.out]; exact HB.out.toExt hyi, by rw [HST.out]; exact HS.out.toExt hyi, HN, HF, HC.out.trans0 hyi⟩, by simp [intOf]; omega⟩
        · obtain rfl : k = d.2.2.length := by omega
          rw [List.take_of_length_le (Nat.le_refl _)] at hB hS
          obtain ⟨sl, hsl⟩ : ∃ l, semiL d.1 d.2.2 d'.1 d'.2.2 = l := ⟨_, rfl⟩
          rw [hsl] at HZ hB hS
          obtain ⟨lr9, r90, r91, r92, fr9⟩ := box3 R7
          obtain ⟨lx9, x90, x91, x92, fx9⟩ := box3 hB
          have hSv9 := hSv6.chg hC (fun b hb h => (HF1.out b hb).2 (by simpa using h))
          have hlt9 := hSv6.lt
          clear hsl
          go_wp2
          refine bodyPost_ret (v := .tuple #[.agg #[.slice A1 d.1.length c1, .int .i64 d.2.1, .slice A3 sl.length c3], .bool true]) (by simp [results, Tryz.results42, go_sem, *]) rfl ⟨_, _, _, F1 ++ F, by rw [HZ.out]; rfl, (by refine x'z ?_; repeat (with_reducible (first | exact x'a _ _ | exact x'b _ | exact x'c (by assumption) | refine x'd ?_ (by assumption) | refine x'e ?_ _ | refine x'f ?_ _ | refine x'g ?_ | refine x'h ?_ ?_ _ | refine x'i ?_ _ | refine x'j ?_ | refine x'k ?_ _ | refine x'l ?_ _ _ | refine x'm ?_ | assumption | (refine x'n ?_; omega) | omega))), ?_, ?_, fun b hb => ?_⟩
          · rw [HZ.out]
            refine sVR_mk (hSv9.chg (G := [w.heap.size + 1 + 1]) (by repeat (with_reducible (first | exact Chg.refl _ _ | refine Chg.trans0 ?_ (by assumption) | refine Chg.extS ?_ _ | refine Chg.alloc ?_ _ | refine Chg.drew ?_ | refine Chg.setCell ?_ (.inl (by simp)) _))) ?_) (OD.chg (E := sII) (G := [w.heap.size + 1 + 1]) ⟨_, rfl, hS⟩ (by repeat (with_reducible (first | exact Chg.refl _ _ | refine Chg.trans0 ?_ (by assumption) | refine Chg.extS ?_ _ | refine Chg.alloc ?_ _ | refine Chg.drew ?_ | refine Chg.setCell ?_ (.inl (by simp)) _))) ?_)
            · intro b hb h
              have := (HF1.out b hb).1
              rw [List.mem_singleton.1 h] at this
              omega
            · intro b hb h
              have := HF.out b hb
              rw [List.mem_singleton.1 h] at this
              omega
          · exact nodup_more (n := W6.heap.size) hSv6.nodup HN.out hlt9 HF.out
          · have := size_of_ext xw4
            rcases List.mem_append.1 hb with h | h
            · have := (HF1.out b h).1; omega
            · have := HF.out b h; omega
end Go.Proofs.YtfigcfajkilhiaaGreat
