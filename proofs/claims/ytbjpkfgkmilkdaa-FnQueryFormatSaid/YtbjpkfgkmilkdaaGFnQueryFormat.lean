/- Queries and texts drawn from any bytes: a text is read exactly if it is a query's format, and what is read has that format; the two comparisons agree. -/
import Derived.Test.YtbjpkfgkmilkdaaG01
import Derived.Test.YtbjpkfgkmilkdaaG14
namespace Go.Proofs.Ytbjpkfgkmilkdaa
open Go.ChangeShapes Go.WideShapes Go.ChangeAt Go.RowKit
theorem vq_bq {q : Qd} (h : vqB q = true) : BQ q := by
  obtain ⟨h1, h2, h3⟩ := vqB_facts h
  have hn := vq_n (n := q.1) (ats := q.2.1) (out := q.2.2) h
  have hs := cAt_sum fun x hx => ⟨(h3 x hx).1, (h3 x hx).2⟩
  exact ⟨⟨by omega, by omega⟩, ⟨by omega, by omega⟩, by omega⟩
theorem zQ_bq : BQ zQ := ⟨⟨by decide, by decide⟩, ⟨by decide, by decide⟩, by decide⟩
theorem pq_bd (s : ByteArray) : BQ ((pQ s).getD zQ) := by
  cases h : pQ s with
  | none => exact zQ_bq
  | some q => exact vq_bq (pQ_some h).1
theorem pQ_empty : pQ ⟨#[]⟩ = none := by decide +kernel
theorem pq_fmt (q : Qd) : (pQ (fmtQ q)).isSome = vqB q ∧ (vqB q = true → (pQ (fmtQ q)).getD zQ = q) := by
  by_cases h : vqB q = true
  · rw [pQ_text h, h]; exact ⟨rfl, fun _ => rfl⟩
  · have e : fmtQ q = ⟨#[]⟩ := by unfold fmtQ; rw [if_neg h]
    rw [e, pQ_empty, Bool.eq_false_iff.2 h]
    exact ⟨rfl, fun h => by cases h⟩
theorem fmtQ_any (q : Qd) : (fmtQ q).size ≤ 1048576 := by
  by_cases h : vqB q = true
  · have := fmtQ_le h; omega
  · unfold fmtQ; rw [if_neg h]; decide
set_option maxHeartbeats 2000000 in
theorem law_QF_big (A : Option Addr) (c : Nat) (bs : List UInt8) (w : World) (hb : 1048576 < bs.length) (hl : bs.length ≤ 9223372036854775807) : Calls Try.prog 5 #[.slice A bs.length c] w fun e w' => e = .returned (.bool true) ∧ ∃ y, w' = ext w y := by
  go_enter Try.func5, Try.ntmps5
  go_wp2_with fail
  refine (lawBig_any hl).mono ?_
  rintro e w1 ⟨rfl, hx1⟩
  rw [decide_eq_true hb]
  go_wp2_with fail
  go_ret
  exact ⟨rfl, hx1⟩
theorem quietEs {P : Program} {f : FuncId} {args : Array Value} {w y : World} {c b : ByteArray}
    (h : Calls P f args (ext w y) fun e w' => e = .returned (.string c) ∧ ∃ z, w' = ext (ext w y) z) (hc : c = b) : Calls P f args (ext w y) fun e w' => e = .returned (.string b) ∧ ∃ z, w' = ext w z := by
  subst hc; exact quietE h
set_option maxRecDepth 100000 in
set_option maxHeartbeats 16000000 in
theorem law_QF_m (A : Option Addr) (c : Nat) (bs : List UInt8) (w : World) (hb : bs.length ≤ 1048576) (h1 : RU w A bs) : Calls Try.prog 5 #[.slice A bs.length c] w fun e w' => e = .returned (.bool true) ∧ ∃ y, w' = ext w y := by
  have HU := Lib.hid h1
  clear h1
  go_enter Try.func5, Try.ntmps5
  go_wp2_with fail
  refine (lawBig_any (by omega)).mono ?_
  rintro e w1 ⟨rfl, hx1⟩
  rw [decide_eq_false (show ¬ 1048576 < bs.length by omega)]
  have HX := Lib.hid hx1
  clear hx1
  go_wp2_with fail
  refine (DrawFormatQuery_any hb (HU.out.toExt HX.out)).mono ?_
  rintro e w2 ⟨A31, a31, A32, a32, q, rfl, hv, hD, hx2⟩
  have V3 := Lib.hid hv
  have hqb := hD.b
  have Hx2 := Lib.hid hx2
  clear hv hD hx2
  go_upto_region 4 with fail
  refine wp_name ?_
  intro W2 hW
  have xw : ∃ y, W2 = ext w2 y := by rw [hW.out]; exact (by refine x'z ?_; repeat (with_reducible (first | exact x'a _ _ | exact x'b _ | exact x'c (by assumption) | refine x'd ?_ (by assumption) | refine x'e ?_ _ | refine x'f ?_ _ | refine x'g ?_ | refine x'h ?_ ?_ _ | refine x'i ?_ _ | refine x'j ?_ | refine x'k ?_ _ | refine x'l ?_ _ _ | refine x'm ?_ | assumption | (refine x'n ?_; omega) | omega)))
  have B3 : Hid (BoxAt W2 w2.heap.size #[.int .i64 q.1, .slice A31 q.2.1.length a31, .slice A32 q.2.2.length a32]) := Lib.hid (by rw [hW.out]; exact BoxAt.new _ _ _)
  have V3 := Lib.hid (VD.toExt V3.out xw)
  have xx := trans_ext Hx2.out xw
  have HX := Lib.hid (trans_ext HX.out xx)
  clear hW xw xx 
  obtain ⟨l3, k30, k31, k32, f3⟩ := box3 B3.out
  go_wp2_with fail
  refine (FormatQuery_any hqb V3.out).mono ?_
  rintro e w4 ⟨rfl, hx4⟩
  obtain ⟨hp1, hp2⟩ := pq_fmt q
  have hts := fmtQ_any q
  have hbd := pq_bd (fmtQ q)
  obtain ⟨t, ht⟩ : ∃ t, fmtQ q = t := ⟨_, rfl⟩
  rw [ht] at hp1 hp2 hts hbd ⊢
  obtain ⟨xq, hxq⟩ : ∃ x, (pQ t).getD zQ = x := ⟨_, rfl⟩
  obtain ⟨v, hv⟩ : ∃ v, vqB q = v := ⟨_, rfl⟩
  rw [hv] at hp1 hp2
  rw [hxq] at hp2 hbd
  have HV := Lib.hid hv
  have HP1 := Lib.hid hp1
  have HP2 := Lib.hid hp2
  have HXQ := Lib.hid hxq
  clear hp1 hp2 hv hxq ht
  have B3 := Lib.hid (B3.out.toExt hx4)
  have V3 := Lib.hid (VD.toExt V3.out hx4)
  have HX := Lib.hid (trans_ext HX.out hx4)
  clear l3 k30 k31 k32 f3
  obtain ⟨l3, k30, k31, k32, f3⟩ := box3 B3.out
  go_wp2_with fail
  refine (ParseQuery_any hts).mono ?_
  rintro e w5 ⟨u0, u1, u2, F5, rfl, hx5, hS5, _, _⟩
  rw [HXQ.out] at hS5
  rw [HP1.out]
  obtain ⟨A41, a41, A42, a42, rfl, rfl, rfl⟩ := sQ_form hS5
  have V4 := Lib.hid (sQ_v _ _ _ hS5)
  have Hx5 := Lib.hid hx5
  clear hS5 hx5
  go_upto_region 5 with fail
  refine wp_name ?_
  intro W5 hW
  have xw : ∃ y, W5 = ext w5 y := by rw [hW.out]; exact (by refine x'z ?_; repeat (with_reducible (first | exact x'a _ _ | exact x'b _ | exact x'c (by assumption) | refine x'd ?_ (by assumption) | refine x'e ?_ _ | refine x'f ?_ _ | refine x'g ?_ | refine x'h ?_ ?_ _ | refine x'i ?_ _ | refine x'j ?_ | refine x'k ?_ _ | refine x'l ?_ _ _ | refine x'm ?_ | assumption | (refine x'n ?_; omega) | omega)))
  have B4 : Hid (BoxAt W5 w5.heap.size #[.int .i64 xq.1, .slice A41 xq.2.1.length a41, .slice A42 xq.2.2.length a42]) := Lib.hid (by rw [hW.out]; exact BoxAt.new _ _ _)
  have V4 := Lib.hid (VD.toExt V4.out xw)
  have xx := trans_ext Hx5.out xw
  have B3 := Lib.hid (B3.out.toExt xx)
  have V3 := Lib.hid (VD.toExt V3.out xx)
  have HX := Lib.hid (trans_ext HX.out xx)
  clear hW xw xx l3 k30 k31 k32 f3
  obtain ⟨l3, k30, k31, k32, f3⟩ := box3 B3.out
  obtain ⟨l4, k40, k41, k42, f4⟩ := box3 B4.out
  go_wp2_with fail
  refine (DrawParseQuery_any hb (HU.out.toExt HX.out)).mono ?_
  rintro e w6 ⟨s, rfl, hs, hx6⟩
  have B3 := Lib.hid (B3.out.toExt hx6)
  have V3 := Lib.hid (VD.toExt V3.out hx6)
  have B4 := Lib.hid (B4.out.toExt hx6)
  have V4 := Lib.hid (VD.toExt V4.out hx6)
  have HX := Lib.hid (trans_ext HX.out hx6)
  clear hx6 l3 k30 k31 k32 f3 l4 k40 k41 k42 f4
  obtain ⟨l3, k30, k31, k32, f3⟩ := box3 B3.out
  obtain ⟨l4, k40, k41, k42, f4⟩ := box3 B4.out
  have hyb := pq_bd s
  obtain ⟨f, hf⟩ : ∃ f, (pQ s).isSome = f := ⟨_, rfl⟩
  obtain ⟨yq, hyq⟩ : ∃ x, (pQ s).getD zQ = x := ⟨_, rfl⟩
  have hfy : f = true → fmtQ yq = s := fun h => by
    rw [h] at hf
    obtain ⟨y, hy⟩ := Option.isSome_iff_exists.1 hf
    rw [← hyq, hy]
    exact (pQ_some hy).2
  rw [hyq] at hyb
  have HFY := Lib.hid hfy
  have HF := Lib.hid hf
  have HYQ := Lib.hid hyq
  clear hfy hf hyq
  go_wp2_with fail
  refine (ParseQuery_any (s := s) (by omega)).mono ?_
  rintro e w7 ⟨u0, u1, u2, F7, rfl, hx7, hS7, _, _⟩
  rw [HYQ.out] at hS7
  rw [HF.out]
  obtain ⟨A71, a71, A72, a72, rfl, rfl, rfl⟩ := sQ_form hS7
  have V7 := Lib.hid (sQ_v _ _ _ hS7)
  have Hx7 := Lib.hid hx7
  clear hS7 hx7
  go_upto_region 7 with fail
  refine wp_name ?_
  intro W7 hW
  have xw : ∃ y, W7 = ext w7 y := by rw [hW.out]; exact (by refine x'z ?_; repeat (with_reducible (first | exact x'a _ _ | exact x'b _ | exact x'c (by assumption) | refine x'd ?_ (by assumption) | refine x'e ?_ _ | refine x'f ?_ _ | refine x'g ?_ | refine x'h ?_ ?_ _ | refine x'i ?_ _ | refine x'j ?_ | refine x'k ?_ _ | refine x'l ?_ _ _ | refine x'm ?_ | assumption | (refine x'n ?_; omega) | omega)))
  have B7 : Hid (BoxAt W7 w7.heap.size #[.int .i64 yq.1, .slice A71 yq.2.1.length a71, .slice A72 yq.2.2.length a72]) := Lib.hid (by rw [hW.out]; exact BoxAt.new _ _ _)
  have V7 := Lib.hid (VD.toExt V7.out xw)
  have xx := trans_ext Hx7.out xw
  have B3 := Lib.hid (B3.out.toExt xx)
  have V3 := Lib.hid (VD.toExt V3.out xx)
  have B4 := Lib.hid (B4.out.toExt xx)
  have V4 := Lib.hid (VD.toExt V4.out xx)
  have HX := Lib.hid (trans_ext HX.out xx)
  clear hW xw xx l3 k30 k31 k32 f3 l4 k40 k41 k42 f4
  obtain ⟨l3, k30, k31, k32, f3⟩ := box3 B3.out
  obtain ⟨l4, k40, k41, k42, f4⟩ := box3 B4.out
  obtain ⟨l7, k70, k71, k72, f7⟩ := box3 B7.out
  go_wp2_with fail
  refine (specParseQuery_any (s := s) (by omega)).mono ?_
  rintro e w9 ⟨u0, u1, u2, F9, rfl, hx9, hS9, _, _⟩
  rw [HYQ.out] at hS9
  rw [HF.out]
  obtain ⟨A91, a91, A92, a92, rfl, rfl, rfl⟩ := sQ_form hS9
  have V9 := Lib.hid (sQ_v _ _ _ hS9)
  have Hx9 := Lib.hid hx9
  clear hS9 hx9
  go_upto_region 8 with fail
  refine wp_name ?_
  intro W9 hW
  have xw : ∃ y, W9 = ext w9 y := by rw [hW.out]; exact (by refine x'z ?_; repeat (with_reducible (first | exact x'a _ _ | exact x'b _ | exact x'c (by assumption) | refine x'd ?_ (by assumption) | refine x'e ?_ _ | refine x'f ?_ _ | refine x'g ?_ | refine x'h ?_ ?_ _ | refine x'i ?_ _ | refine x'j ?_ | refine x'k ?_ _ | refine x'l ?_ _ _ | refine x'm ?_ | assumption | (refine x'n ?_; omega) | omega)))
  have B9 : Hid (BoxAt W9 w9.heap.size #[.int .i64 yq.1, .slice A91 yq.2.1.length a91, .slice A92 yq.2.2.length a92]) := Lib.hid (by rw [hW.out]; exact BoxAt.new _ _ _)
  have V9 := Lib.hid (VD.toExt V9.out xw)
  have xx := trans_ext Hx9.out xw
  have B3 := Lib.hid (B3.out.toExt xx)
  have V3 := Lib.hid (VD.toExt V3.out xx)
  have B4 := Lib.hid (B4.out.toExt xx)
  have V4 := Lib.hid (VD.toExt V4.out xx)
  have B7 := Lib.hid (B7.out.toExt xx)
  have V7 := Lib.hid (VD.toExt V7.out xx)
  have HX := Lib.hid (trans_ext HX.out xx)
  clear hW xw xx l3 k30 k31 k32 f3 l4 k40 k41 k42 f4 l7 k70 k71 k72 f7
  obtain ⟨l3, k30, k31, k32, f3⟩ := box3 B3.out
  obtain ⟨l4, k40, k41, k42, f4⟩ := box3 B4.out
  obtain ⟨l7, k70, k71, k72, f7⟩ := box3 B7.out
  obtain ⟨l9, k90, k91, k92, f9⟩ := box3 B9.out
  go_wp2_with fail
  refine (DrawEqualQueries_any hb (HU.out.toExt HX.out)).mono ?_
  rintro e wE ⟨A111, a111, A112, a112, A121, a121, A122, a122, qa, qb, rfl, hva, hvb, hDa, hDb, hxE⟩
  have V11 := Lib.hid hva
  have V12 := Lib.hid hvb
  have hab := hDa.b
  have hbb := hDb.b
  have HxE := Lib.hid hxE
  clear hva hvb hDa hDb hxE
  go_upto_region 9 with fail
  refine wp_name ?_
  intro WE hW
  have xw : ∃ y, WE = ext wE y := by rw [hW.out]; exact (by refine x'z ?_; repeat (with_reducible (first | exact x'a _ _ | exact x'b _ | exact x'c (by assumption) | refine x'd ?_ (by assumption) | refine x'e ?_ _ | refine x'f ?_ _ | refine x'g ?_ | refine x'h ?_ ?_ _ | refine x'i ?_ _ | refine x'j ?_ | refine x'k ?_ _ | refine x'l ?_ _ _ | refine x'm ?_ | assumption | (refine x'n ?_; omega) | omega)))
  have B11 : Hid (BoxAt WE wE.heap.size #[.int .i64 qa.1, .slice A111 qa.2.1.length a111, .slice A112 qa.2.2.length a112]) := Lib.hid (by rw [hW.out]; exact (BoxAt.new _ _ _).toExt (alloc_ext _ _))
  have V11 := Lib.hid (VD.toExt V11.out xw)
  have B12 : Hid (BoxAt WE (wE.heap.size + 1) #[.int .i64 qb.1, .slice A121 qb.2.1.length a121, .slice A122 qb.2.2.length a122]) := Lib.hid (by rw [hW.out]; exact box_second)
  have V12 := Lib.hid (VD.toExt V12.out xw)
  have xx := trans_ext HxE.out xw
  have B3 := Lib.hid (B3.out.toExt xx)
  have V3 := Lib.hid (VD.toExt V3.out xx)
  have B4 := Lib.hid (B4.out.toExt xx)
  have V4 := Lib.hid (VD.toExt V4.out xx)
  have B7 := Lib.hid (B7.out.toExt xx)
  have V7 := Lib.hid (VD.toExt V7.out xx)
  have B9 := Lib.hid (B9.out.toExt xx)
  have V9 := Lib.hid (VD.toExt V9.out xx)
  have HX := Lib.hid (trans_ext HX.out xx)
  clear hW xw xx l3 k30 k31 k32 f3 l4 k40 k41 k42 f4 l7 k70 k71 k72 f7 l9 k90 k91 k92 f9
  obtain ⟨l3, k30, k31, k32, f3⟩ := box3 B3.out
  obtain ⟨l4, k40, k41, k42, f4⟩ := box3 B4.out
  obtain ⟨l7, k70, k71, k72, f7⟩ := box3 B7.out
  obtain ⟨l9, k90, k91, k92, f9⟩ := box3 B9.out
  obtain ⟨l11, k110, k111, k112, f11⟩ := box3 B11.out
  obtain ⟨l12, k120, k121, k122, f12⟩ := box3 B12.out
  obtain ⟨eq0, heq0⟩ : ∃ e, decide (qa = qb) = e := ⟨_, rfl⟩
  have q9 : (f == f) = true := by simp
  have q8 : (v == v) = true := by simp
  have q7 : (eq0 == eq0) = true := by simp
  have HEQ := Lib.hid heq0
  clear heq0
  cases v with
  | false =>
    cases f with
    | false =>
      go_wp2_with fail
      refine wp_region_ext (by kernel_rfl) (by kernel_rfl) ?_
      repeat (go_big_quiet_step (first
        | (go_at_call 28; exact quietEb (specIsValidQuery_any hqb (VD.toExt V3.out ⟨_, rfl⟩)) HV.out)
        | (go_at_call 29; exact quietEb (IsValidQuery_any hqb (VD.toExt V3.out ⟨_, rfl⟩)) HV.out)
        | (go_at_call_of 30 (A41); exact quietEb (specEqualQueries_any hbd (VD.toExt V4.out ⟨_, rfl⟩) hqb (VD.toExt V3.out ⟨_, rfl⟩)) (decide_eq_true HXE.out))
        | (go_at_call 24; exact quietEs (FormatQuery_any hyb (VD.toExt V7.out ⟨_, rfl⟩)) HFS.out)
        | (go_at_call 31; exact quietEb (EqualQueries_any hab (VD.toExt V11.out ⟨_, rfl⟩) hbb (VD.toExt V12.out ⟨_, rfl⟩)) HEQ.out)
        | (go_at_call_of 30 (A111); exact quietEb (specEqualQueries_any hab (VD.toExt V11.out ⟨_, rfl⟩) hbb (VD.toExt V12.out ⟨_, rfl⟩)) HEQ.out)))
      refine wpQuiet_nil ?_
      rintro _ ⟨z, rfl⟩
      go_wp2_with fail
      go_ret
      exact ⟨rfl, trans_ext HX.out ⟨z, rfl⟩⟩
    | true =>
      obtain ⟨fs, hfs⟩ : ∃ t, fmtQ yq = t := ⟨_, rfl⟩
      have HFS := Lib.hid hfs
      have q6 : (fs.toList == s.toList) = true := by rw [← hfs, HFY.out rfl]; simp
      clear hfs
      go_wp2_with fail
      refine wp_region_ext (by kernel_rfl) (by kernel_rfl) ?_
      repeat (go_big_quiet_step (first
        | (go_at_call 28; exact quietEb (specIsValidQuery_any hqb (VD.toExt V3.out ⟨_, rfl⟩)) HV.out)
        | (go_at_call 29; exact quietEb (IsValidQuery_any hqb (VD.toExt V3.out ⟨_, rfl⟩)) HV.out)
        | (go_at_call_of 30 (A41); exact quietEb (specEqualQueries_any hbd (VD.toExt V4.out ⟨_, rfl⟩) hqb (VD.toExt V3.out ⟨_, rfl⟩)) (decide_eq_true HXE.out))
        | (go_at_call 24; exact quietEs (FormatQuery_any hyb (VD.toExt V7.out ⟨_, rfl⟩)) HFS.out)
        | (go_at_call 31; exact quietEb (EqualQueries_any hab (VD.toExt V11.out ⟨_, rfl⟩) hbb (VD.toExt V12.out ⟨_, rfl⟩)) HEQ.out)
        | (go_at_call_of 30 (A111); exact quietEb (specEqualQueries_any hab (VD.toExt V11.out ⟨_, rfl⟩) hbb (VD.toExt V12.out ⟨_, rfl⟩)) HEQ.out)))
      refine wpQuiet_nil ?_
      rintro _ ⟨z, rfl⟩
      go_wp2_with fail
      go_ret
      exact ⟨rfl, trans_ext HX.out ⟨z, rfl⟩⟩
  | true =>
    have HXE := Lib.hid (HP2.out rfl)
    cases f with
    | false =>
      go_wp2_with fail
      refine wp_region_ext (by kernel_rfl) (by kernel_rfl) ?_
      repeat (go_big_quiet_step (first
        | (go_at_call 28; exact quietEb (specIsValidQuery_any hqb (VD.toExt V3.out ⟨_, rfl⟩)) HV.out)
        | (go_at_call 29; exact quietEb (IsValidQuery_any hqb (VD.toExt V3.out ⟨_, rfl⟩)) HV.out)
        | (go_at_call_of 30 (A41); exact quietEb (specEqualQueries_any hbd (VD.toExt V4.out ⟨_, rfl⟩) hqb (VD.toExt V3.out ⟨_, rfl⟩)) (decide_eq_true HXE.out))
        | (go_at_call 24; exact quietEs (FormatQuery_any hyb (VD.toExt V7.out ⟨_, rfl⟩)) HFS.out)
        | (go_at_call 31; exact quietEb (EqualQueries_any hab (VD.toExt V11.out ⟨_, rfl⟩) hbb (VD.toExt V12.out ⟨_, rfl⟩)) HEQ.out)
        | (go_at_call_of 30 (A111); exact quietEb (specEqualQueries_any hab (VD.toExt V11.out ⟨_, rfl⟩) hbb (VD.toExt V12.out ⟨_, rfl⟩)) HEQ.out)))
      refine wpQuiet_nil ?_
      rintro _ ⟨z, rfl⟩
      go_wp2_with fail
      go_ret
      exact ⟨rfl, trans_ext HX.out ⟨z, rfl⟩⟩
    | true =>
      obtain ⟨fs, hfs⟩ : ∃ t, fmtQ yq = t := ⟨_, rfl⟩
      have HFS := Lib.hid hfs
      have q6 : (fs.toList == s.toList) = true := by rw [← hfs, HFY.out rfl]; simp
      clear hfs
      go_wp2_with fail
      refine wp_region_ext (by kernel_rfl) (by kernel_rfl) ?_
      repeat (go_big_quiet_step (first
        | (go_at_call 28; exact quietEb (specIsValidQuery_any hqb (VD.toExt V3.out ⟨_, rfl⟩)) HV.out)
        | (go_at_call 29; exact quietEb (IsValidQuery_any hqb (VD.toExt V3.out ⟨_, rfl⟩)) HV.out)
        | (go_at_call_of 30 (A41); exact quietEb (specEqualQueries_any hbd (VD.toExt V4.out ⟨_, rfl⟩) hqb (VD.toExt V3.out ⟨_, rfl⟩)) (decide_eq_true HXE.out))
        | (go_at_call 24; exact quietEs (FormatQuery_any hyb (VD.toExt V7.out ⟨_, rfl⟩)) HFS.out)
        | (go_at_call 31; exact quietEb (EqualQueries_any hab (VD.toExt V11.out ⟨_, rfl⟩) hbb (VD.toExt V12.out ⟨_, rfl⟩)) HEQ.out)
        | (go_at_call_of 30 (A111); exact quietEb (specEqualQueries_any hab (VD.toExt V11.out ⟨_, rfl⟩) hbb (VD.toExt V12.out ⟨_, rfl⟩)) HEQ.out)))
      refine wpQuiet_nil ?_
      rintro _ ⟨z, rfl⟩
      go_wp2_with fail
      go_ret
      exact ⟨rfl, trans_ext HX.out ⟨z, rfl⟩⟩
theorem law_QF (A : Option Addr) (c : Nat) (bs : List UInt8) (w : World) (hl : bs.length ≤ 9223372036854775807) (h1 : RU w A bs) : Calls Try.prog 5 #[.slice A bs.length c] w fun e w' => e = .returned (.bool true) ∧ ∃ y, w' = ext w y := by
  by_cases hb : 1048576 < bs.length
  · exact law_QF_big A c bs w hb hl
  · exact law_QF_m A c bs w (by omega) h1
set_option maxRecDepth 100000 in
theorem lifted_FnQueryFormat (os : Os) (started : os.Started) (H : Type) (enc : TypeId × Value → H) :
    ReturnsInHanded {} Try.checked os 5 .any (Rows.fnQueryFormatSpec.pre6 enc Try.prog Try.f5 Rows.fnQueryFormatRow.domain false) (Rows.fnQueryFormatSpec.post enc Try.prog Try.f5 false true false false) := by
  refine returnsInHanded_of_change (C := Try.checked) Try.own started (by kernel_rfl) Try.func5 (ChangeSpec.witness6 (enc := enc) (C := Try.checked) false ⟨#[], #[.slice none 0 0], []⟩ 8 (by kernel_rfl) (by kernel_rfl) (by kernel_rfl) (by kernel_rfl)) ?_
  intro W base args ds gs before hval0 hW hcnd _
  have hval : ∀ (j : Nat) t v, Try.f5.params[j]? = some t → args[j]? = some v → Value.okWide Try.prog W .any base t v := hval0
  clear hval0 hcnd
  obtain ⟨_, _, hA0, hV0, _, _, _⟩ := id hW
  have hA : DataW.TrodAll enc Try.prog W 0 (fun _ => true) true Try.f5.params.toList args.toList ds _ := hA0
  clear hA0
  rw [Try.params5] at hA hval
  obtain ⟨v0, d0, rfl, rfl, h0⟩ := trodAll_one hA
  obtain ⟨x0, ⟨A0, c0, hc0, r0⟩, l0, _⟩ := openArg oBytes h0
  obtain rfl := one1 hc0 (okWide_slice Try.underlying37 (hval 0 _ v0 rfl rfl))
  refine (law_QF A0 _ x0 W (le_maxLen l0) r0).mono fun e W' ⟨he, hw⟩ => ?_
  exact ⟨_, he, law_post Try.laidOut hW rfl rfl rfl Try.underlying4 (by kernel_rfl) hw⟩
theorem fnQueryFormat_and {a b : Bool} (ha : a = true) (hb : b = true) : (a && b) = true := by rw [ha, hb]; rfl
set_option maxHeartbeats 16000000 in
theorem fnQueryFormat_closed : joinedFacts Try.checked.prog 5 Try.f5 Rows.fnQueryFormatSpec Rows.fnQueryFormatRow = true := by
  unfold joinedFacts
  repeat' (with_reducible refine fnQueryFormat_and ?_ ?_)
  all_goals (as_aux_lemma => kernel_rfl)
theorem fnQueryFormat_holds : Rows.FnQueryFormatSaid :=
  OpenClaim.holds_of_wide 5 Try.f5 rfl rfl rfl rfl rfl rfl rfl ⟨rfl, rfl, rfl, rfl, rfl⟩ rfl rfl rfl rfl rfl (by kernel_rfl) Try.func5 fnQueryFormat_closed
    (of_decide_eq_true (by kernel_rfl)) (by unfold Func.isWrapper; rw [if_neg (of_decide_eq_false (by kernel_rfl))]; exact ⟨rfl, rfl⟩)
    (fun os started H enc _ => lifted_FnQueryFormat os started H enc)
end Go.Proofs.Ytbjpkfgkmilkdaa
