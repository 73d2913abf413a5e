/- Contracts of functions that the statement reaches. -/
import Derived.Test.YtfigcfajkilhiaaJ40
import Derived.Test.YtfigcfajkilhiaaJ31
import Derived.Test.YtfigcfajkilhiaaJ18
namespace Go.Proofs.Ytfigcfajkilhiaa
open Go.RowKit
def jrow (un va r vb : List Int) (rb : List (List Int)) : List (List Int) := (rb.filter fun s => agreeB va r vb s).map fun s => glueR un va r vb s
theorem joinL_step {un va vb : List Int} {ra rb : List (List Int)} {k : Nat} (h : k < ra.length) : joinL un va (ra.take (k + 1)) vb rb = joinL un va (ra.take k) vb rb ++ jrow un va ra[k] vb rb := by
  unfold joinL jrow
  rw [List.take_succ_eq_append_getElem h, List.flatMap_append]
  simp
theorem jrow_step {un va r vb : List Int} {rb : List (List Int)} {k : Nat} (h : k < rb.length) : jrow un va r vb (rb.take (k + 1)) = jrow un va r vb (rb.take k) ++ (if agreeB va r vb rb[k] = true then [glueR un va r vb rb[k]] else []) := by
  unfold jrow
  rw [List.take_succ_eq_append_getElem h, List.filter_append, List.filter_cons, List.filter_nil, List.map_append]
  by_cases h1 : agreeB va r vb rb[k] = true <;> simp [h1]
theorem jrow_len {un va r vb : List Int} {rb : List (List Int)} {k : Nat} : (jrow un va r vb (rb.take k)).length ≤ k := by
  unfold jrow
  rw [List.length_map]
  exact Nat.le_trans (List.length_filter_le _ _) (by simp; omega)
theorem joinL_mono {un va vb : List Int} {ra rb : List (List Int)} {k : Nat} : (joinL un va (ra.take k) vb rb).length ≤ (joinL un va ra vb rb).length := by
  have : joinL un va ra vb rb = joinL un va (ra.take k) vb rb ++ joinL un va (ra.drop k) vb rb := by
    unfold joinL
    rw [← List.flatMap_append, List.take_append_drop]
  rw [this]
  simp
theorem glueO_get {un va r vb s : List Int} (h : un.all (okG va r vb s) = agreeB va r vb s) (h2 : agreeB va r vb s = true) : glueO un va r vb s = some (glueR un va r vb s) := by
  unfold glueO
  rw [h, h2]
  rfl
set_option maxRecDepth 100000 in
set_option maxHeartbeats 16000000 in
theorem NaturalJoin_any {A B A' B' : Option Addr} {a b a' b' : Nat} {d d' : VRd} {w : World} (hb : BVR d) (h : vVR w [.slice A d.1.length a, .int .i64 d.2.1, .slice B d.2.2.length b] d) (hb' : BVR d') (h' : vVR w [.slice A' d'.1.length a', .int .i64 d'.2.1, .slice B' d'.2.2.length b'] d') :
    Calls Try.prog 50 #[.agg #[.slice A d.1.length a, .int .i64 d.2.1, .slice B d.2.2.length b], .agg #[.slice A' d'.1.length a', .int .i64 d'.2.1, .slice B' d'.2.2.length b']] w (VROut (joinR d d') w) := by
  obtain ⟨r1, r2, _⟩ := vVR_get h
  obtain ⟨s1, s2, _⟩ := vVR_get h'
  have r3 := (vII_get (vRel_get r2).2).2
  have s3 := (vII_get (vRel_get s2).2).2
  have HVa := Lib.hid h
  have HVb := Lib.hid h'
  have Hba := Lib.hid hb
  have Hbb := Lib.hid hb'
  obtain ⟨t1, ht1⟩ : ∃ t, vrB d = t := ⟨_, rfl⟩
  obtain ⟨t2, ht2⟩ : ∃ t, vrB d' = t := ⟨_, rfl⟩
  have HT1 := Lib.hid ht1
  have HT2 := Lib.hid ht2
  clear h h' hb hb' r2 s2 ht1 ht2
  go_enter Try.func50, Try.ntmps50
  go_upto_region 1 with fail
  refine wp_name ?_
  intro W hW
  have xW : ∃ y, W = ext w y := by rw [hW.out]; exact (by refine x'z ?_; repeat (with_reducible (first | exact x'a _ _ | exact x'b _ | exact x'c (by assumption) | refine x'd ?_ (by assumption) | refine x'e ?_ _ | refine x'f ?_ _ | refine x'g ?_ | refine x'h ?_ ?_ _ | refine x'i ?_ _ | refine x'j ?_ | refine x'k ?_ _ | refine x'l ?_ _ _ | refine x'm ?_ | assumption | (refine x'n ?_; omega) | omega)))
  have BW0 : BoxAt W (w.heap.size) #[.slice A d.1.length a, .int .i64 d.2.1, .slice B d.2.2.length b] := by rw [hW.out]; refine ⟨?_, fun j => ?_, fun j => ?_⟩ <;> go_simp
  obtain ⟨lW0, bW0, fW0⟩ := BW0
  have cW0_0 : W.cell? ⟨w.heap.size, 0, none⟩ = some (.slice A d.1.length a) := bW0 0
  have cW0_1 : W.cell? ⟨w.heap.size, 1, none⟩ = some (.int .i64 d.2.1) := bW0 1
  have cW0_2 : W.cell? ⟨w.heap.size, 2, none⟩ = some (.slice B d.2.2.length b) := bW0 2
  have BW1 : BoxAt W (w.heap.size + 1) #[.slice A' d'.1.length a', .int .i64 d'.2.1, .slice B' d'.2.2.length b'] := by rw [hW.out]; refine ⟨?_, fun j => ?_, fun j => ?_⟩ <;> go_simp
  obtain ⟨lW1, bW1, fW1⟩ := BW1
  have cW1_0 : W.cell? ⟨w.heap.size + 1, 0, none⟩ = some (.slice A' d'.1.length a') := bW1 0
  have cW1_1 : W.cell? ⟨w.heap.size + 1, 1, none⟩ = some (.int .i64 d'.2.1) := bW1 1
  have cW1_2 : W.cell? ⟨w.heap.size + 1, 2, none⟩ = some (.slice B' d'.2.2.length b') := bW1 2
  have BW2 : BoxAt W (w.heap.size + 1 + 1) #[.slice none 0 0, .int .i64 0, .slice none 0 0] := by rw [hW.out]; refine ⟨?_, fun j => ?_, fun j => ?_⟩ <;> go_simp
  obtain ⟨lW2, bW2, fW2⟩ := BW2
  have cW2_0 : W.cell? ⟨w.heap.size + 1 + 1, 0, none⟩ = some (.slice none 0 0) := bW2 0
  have cW2_1 : W.cell? ⟨w.heap.size + 1 + 1, 1, none⟩ = some (.int .i64 0) := bW2 1
  have cW2_2 : W.cell? ⟨w.heap.size + 1 + 1, 2, none⟩ = some (.slice none 0 0) := bW2 2
  clear hW
  have PW : BoxAt W w.heap.size #[.slice A d.1.length a, .int .i64 d.2.1, .slice B d.2.2.length b] := ⟨lW0, bW0, fW0⟩
  have QW : BoxAt W (w.heap.size + 1) #[.slice A' d'.1.length a', .int .i64 d'.2.1, .slice B' d'.2.2.length b'] := ⟨lW1, bW1, fW1⟩
  have RW : BoxAt W (w.heap.size + 1 + 1) #[.slice none 0 0, .int .i64 0, .slice none 0 0] := ⟨lW2, bW2, fW2⟩
  cases t1 with
  | false =>
    have HZ := Lib.hid (show joinR d d' = none by unfold joinR; rw [HT1.out]; simp)
    go_wp2_with (go_at_call 44; refine (IsValidVarRelation_any Hba.out (VD.toExt HVa.out xW)).mono ?_; rintro e w3 ⟨rfl, hx3⟩; rw [HT1.out]; obtain ⟨l3, a3, a3', a3'', f3⟩ := box3 (RW.toExt hx3))
    refine bodyPost_ret (v := .tuple #[.agg #[.slice none 0 0, .int .i64 0, .slice none 0 0], .bool false]) (by simp [results, Try.results50, go_sem, *]) rfl (vrOut_none HZ.out rfl (by refine x'z ?_; repeat (with_reducible (first | exact x'a _ _ | exact x'b _ | exact x'c (by assumption) | refine x'd ?_ (by assumption) | refine x'e ?_ _ | refine x'f ?_ _ | refine x'g ?_ | refine x'h ?_ ?_ _ | refine x'i ?_ _ | refine x'j ?_ | refine x'k ?_ _ | refine x'l ?_ _ _ | refine x'm ?_ | assumption | (refine x'n ?_; omega) | omega))))
  | true =>
    cases t2 with
    | false =>
      have HZ := Lib.hid (show joinR d d' = none by unfold joinR; rw [HT2.out]; simp)
      go_wp2_with (first
        | (go_at_call 44; with_reducible refine (IsValidVarRelation_any Hba.out (VD.toExt HVa.out ?_)).mono ?_; (focus (exact xW)); rintro e w3 ⟨rfl, hx3⟩; rw [HT1.out]; obtain ⟨l3, a3, a3', a3'', f3⟩ := box3 (QW.toExt hx3))
        | (go_at_call 44; with_reducible refine (IsValidVarRelation_any Hbb.out (VD.toExt HVb.out ?_)).mono ?_; (focus (exact (trans_ext xW hx3))); rintro e w4 ⟨rfl, hx4⟩; rw [HT2.out]; obtain ⟨l4, a4, a4', a4'', f4⟩ := box3 (RW.toExt (trans_ext hx3 hx4))))
      refine bodyPost_ret (v := .tuple #[.agg #[.slice none 0 0, .int .i64 0, .slice none 0 0], .bool false]) (by simp [results, Try.results50, go_sem, *]) rfl (vrOut_none HZ.out rfl (by refine x'z ?_; repeat (with_reducible (first | exact x'a _ _ | exact x'b _ | exact x'c (by assumption) | refine x'd ?_ (by assumption) | refine x'e ?_ _ | refine x'f ?_ _ | refine x'g ?_ | refine x'h ?_ ?_ _ | refine x'i ?_ _ | refine x'j ?_ | refine x'k ?_ _ | refine x'l ?_ _ _ | refine x'm ?_ | assumption | (refine x'n ?_; omega) | omega))))
    | true =>
      have HA := Lib.hid (vrB_iff.1 HT1.out)
      have HB := Lib.hid (vrB_iff.1 HT2.out)
      go_upto_region 3 with (first
        | (go_at_call 44; with_reducible refine (IsValidVarRelation_any Hba.out (VD.toExt HVa.out ?_)).mono ?_; (focus (exact xW)); rintro e w3 ⟨rfl, hx3⟩; rw [HT1.out]; obtain ⟨l3, a3, a3', a3'', f3⟩ := box3 (QW.toExt hx3))
        | (go_at_call 44; with_reducible refine (IsValidVarRelation_any Hbb.out (VD.toExt HVb.out ?_)).mono ?_; (focus (exact (trans_ext xW hx3))); rintro e w4 ⟨rfl, hx4⟩; rw [HT2.out]))
      have x4 := trans_ext hx3 hx4
      have xw4 := trans_ext xW x4
      have P4 := PW.toExt x4
      have Q4 := QW.toExt x4
      have R4 := RW.toExt x4
      obtain ⟨lp, p0, p1, p2, fp⟩ := box3 P4
      obtain ⟨lq, q0, q1, q2, fq⟩ := box3 Q4
      have hva5 : d.1.length ≤ 5 := HA.out.len
      have hvb5 : d'.1.length ≤ 5 := HB.out.len
      clear PW QW RW lW0 bW0 fW0 cW0_0 cW0_1 cW0_2 lW1 bW1 fW1 cW1_0 cW1_1 cW1_2 lW2 bW2 fW2 cW2_0 cW2_1 cW2_2 l3 a3 a3' a3'' f3 xW hx3 hx4
      go_wp2_with fail
      refine (unite_v (by omega) (r1.toExt xw4) (by omega) (s1.toExt xw4)).mono ?_
      rintro e W6 ⟨vu, Fu, rfl, hx6, hSu, hFu⟩
      obtain ⟨Au, cu, rfl, _⟩ := hSu.form
      have HFu := Lib.hid hFu
      have hun := uniL_length d'.1 d.1
      have Hun := Lib.hid (fun v (hv : v ∈ uniL d.1 d'.1) => mem_uniL.1 hv)
      have Hag := Lib.hid (fun r s => okG_agree (un := uniL d.1 d'.1) (va := d.1) (r := r) (vb := d'.1) (s := s) (fun v => mem_uniL))
      have HJ : Hid (∀ un, uniL d.1 d'.1 = un → ((joinL un d.1 d.2.2 d'.1 d'.2.2).length ≤ 4000 → joinR d d' = some (un, (un.length : Int), sortR (joinL un d.1 d.2.2 d'.1 d'.2.2))) ∧ (¬ (joinL un d.1 d.2.2 d'.1 d'.2.2).length ≤ 4000 → joinR d d' = none)) := Lib.hid (by
        rintro un rfl
        refine ⟨fun h => ?_, fun h => ?_⟩
        · unfold joinR; rw [if_pos ⟨⟨HT1.out, HT2.out⟩, h⟩]; rfl
        · unfold joinR; rw [if_neg (fun k => h k.2)])
      obtain ⟨un, hune⟩ : ∃ u, uniL d.1 d'.1 = u := ⟨_, rfl⟩
      have HJ := Lib.hid (HJ.out un hune)
      rw [hune] at hSu hun Hun Hag ⊢
      have P6 := P4.toExt hx6
      have Q6 := Q4.toExt hx6
      have R6 := R4.toExt hx6
      have xw6 := trans_ext xw4 hx6
      have hunx : un.length ≤ 10 := by omega
      have hra := HA.out.cnt
      have hrb := HB.out.cnt
      have HAl := Lib.hid HA.out.rl
      have HBl := Lib.hid HB.out.rl
      have hRs := R6.1
      have hw4s := R4.1
      clear hune lp p0 p1 p2 fp lq q0 q1 q2 fq P4 Q4 R4 HT1 HT2 HVa HVb Hba Hbb HA HB hFu
      obtain ⟨lp6, p60, p61, p62, fp6⟩ := box3 P6
      go_wp2_with fail
      go_loopw [7, 32] (fun v i wr => ∃ (k : Nat) (F : List Nat), i = .int .i64 k ∧ k ≤ d.2.2.length ∧ (joinL un d.1 (d.2.2.take k) d'.1 d'.2.2).length ≤ 4000 ∧ SV 48 1 sRow wr v (joinL un d.1 (d.2.2.take k) d'.1 d'.2.2) F ∧ Hid F.Nodup ∧ Hid (∀ x ∈ F, W6.heap.size ≤ x) ∧ ∃ y, wr = ext W6 y) (fun _ i _ => d.2.2.length - (intOf i).toNat)
      case atStart => exact ⟨0, [], rfl, by omega, by simp [joinL], by simpa [joinL] using SV.nil, Lib.hid (by simp), Lib.hid (by simp), refl_ext W6⟩
      case round =>
        obtain ⟨k, F, rfl, hk, hjl, hS, HN, HF, hy⟩ := hrel
        clear lp6 p60 p61 p62 fp6
        have hw := trans_ext xw6 hy
        by_cases hlt : k < d.2.2.length
        · obtain ⟨br, orr, A4, c4, rfl, hbr0, hcr0, hvr⟩ := r3.atV hlt
          have hbr : br < wr.heap.size := Nat.lt_of_lt_of_le hbr0 (size_of_ext hw)
          have hcr : wr.cell? ⟨br, orr + k, none⟩ = some (.slice A4 d.2.2[k].length c4) := by obtain ⟨y, e⟩ := hw; rw [e, cell_ext hbr0]; exact hcr0
          clear hcr0
          have lr := HAl.out _ (List.getElem_mem hlt)
          have Hst := Lib.hid (joinL_step (un := un) (va := d.1) (vb := d'.1) (rb := d'.2.2) hlt)
          have HMO := Lib.hid (joinL_mono (un := un) (va := d.1) (vb := d'.1) (ra := d.2.2) (rb := d'.2.2) (k := k + 1))
          obtain ⟨r, hr⟩ : ∃ r, d.2.2[k] = r := ⟨_, rfl⟩
          rw [hr] at hcr hvr lr Hst
          obtain ⟨jl, hjle⟩ : ∃ l, joinL un d.1 (d.2.2.take k) d'.1 d'.2.2 = l := ⟨_, rfl⟩
          rw [hjle] at Hst hjl hS
          have HLR := Lib.hid lr
          have HSU := Lib.hid (hSu.toExt hy)
          clear hr hjle lr
          obtain ⟨lp7, p70, p71, p72, fp7⟩ := box3 (P6.toExt hy)
          obtain ⟨lq7, q70, q71, q72, fq7⟩ := box3 (Q6.toExt hy)
          obtain ⟨wo, rfl⟩ : ∃ wo : World, wo = wr := ⟨_, rfl⟩
          have HS := Lib.hid hS
          clear hS
          go_wp2_with fail
          go_loopw [7, 40] (fun v j wi => ∃ (k2 : Nat) (F2 : List Nat), j = .int .i64 k2 ∧ k2 ≤ d'.2.2.length ∧ SV 48 1 sRow wi v (jl ++ jrow un d.1 r d'.1 (d'.2.2.take k2)) F2 ∧ Hid F2.Nodup ∧ Hid (∀ x ∈ F2, W6.heap.size ≤ x) ∧ ∃ y, wi = ext W6 y) (fun _ j _ => d'.2.2.length - (intOf j).toNat)
          case atStart => exact ⟨0, F, rfl, by omega, by simpa [jrow] using HS.out, HN, HF, hy⟩
          case round =>
            obtain ⟨k2, F2, rfl, hk2, hS2, HN2, HF2, hyi⟩ := hrel
            have hwi := trans_ext xw6 hyi
            clear lp7 p70 p71 p72 fp7 lq7 q70 q71 q72 fq7
            obtain ⟨lp8, p80, p81, p82, fp8⟩ := box3 (P6.toExt hyi)
            obtain ⟨lq8, q80, q81, q82, fq8⟩ := box3 (Q6.toExt hyi)
            have hjl2 := jrow_len (un := un) (va := d.1) (r := r) (vb := d'.1) (rb := d'.2.2) (k := k2)
            by_cases hlt2 : k2 < d'.2.2.length
            · obtain ⟨bs, os, A5, c5, rfl, hbs, hcs, hvs⟩ := (s3.toExt hwi).atV hlt2
              have ls := HBl.out _ (List.getElem_mem hlt2)
              have HJS := Lib.hid (jrow_step (un := un) (va := d.1) (r := r) (vb := d'.1) hlt2)
              obtain ⟨s, hs⟩ : ∃ s, d'.2.2[k2] = s := ⟨_, rfl⟩
              rw [hs] at hcs hvs ls HJS
              obtain ⟨jr, hjr⟩ : ∃ j, jrow un d.1 r d'.1 (d'.2.2.take k2) = j := ⟨_, rfl⟩
              rw [hjr] at HJS hS2 hjl2
              have HLS := Lib.hid ls
              obtain ⟨o, ho⟩ : ∃ o, glueO un d.1 r d'.1 s = o := ⟨_, rfl⟩
              have HG := Lib.hid ho
              have hos : o.isSome = agreeB d.1 r d'.1 s := by rw [← ho]; exact glueO_some (Hag.out r s)
              have hget := Lib.hid (fun h => glueO_get (Hag.out r s) h)
              obtain ⟨t, ht⟩ : ∃ t, agreeB d.1 r d'.1 s = t := ⟨_, rfl⟩
              rw [ht] at hos HJS
              have HOS := Lib.hid hos
              have HTT := Lib.hid ht
              have hruw := (hSu.toExt hyi).toView sI_v
              have hlk : (jl ++ jr).length + 1 ≤ 2000000000 := by rw [List.length_append]; omega
              have HFl2 := Lib.hid hS2.lt
              clear hs ho hos ht hjr ls
              cases t with
              | false =>
                have HST := Lib.hid (show jrow un d.1 r d'.1 (d'.2.2.take (k2 + 1)) = jr by rw [HJS.out, if_neg (by simp), List.append_nil])
                go_wp2_with (go_at_call 116; refine (glue_any (by omega) hruw (by omega) (r1.toExt hwi) HLR.out (hvr.toExt hwi) (by omega) (s1.toExt hwi) HLS.out hvs Hun.out).mono ?_; rw [HG.out]; rintro e w8 ⟨vg, Fg, rfl, hx8, hSg, hFg⟩; rw [HOS.out])
                exact ⟨⟨k2 + 1, F2, by go_num, by omega, by rw [HST.out]; exact hS2.toExt hx8, HN2, HF2, trans_ext hyi hx8⟩, by simp [intOf]; omega⟩
              | true =>
                have HST := Lib.hid (show jl ++ jrow un d.1 r d'.1 (d'.2.2.take (k2 + 1)) = jl ++ jr ++ [glueR un d.1 r d'.1 s] by rw [HJS.out, if_pos rfl, List.append_assoc])
                have HGS := Lib.hid (show o.getD [] = glueR un d.1 r d'.1 s by rw [← HG.out, hget.out HTT.out]; rfl)
                obtain ⟨g, hg⟩ : ∃ g, glueR un d.1 r d'.1 s = g := ⟨_, rfl⟩
                rw [hg] at HST HGS
                clear hg
                go_wp2_with (first
                  | (go_at_call 116; refine (glue_any (by omega) hruw (by omega) (r1.toExt hwi) HLR.out (hvr.toExt hwi) (by omega) (s1.toExt hwi) HLS.out hvs Hun.out).mono ?_; rw [HG.out]; rintro e w8 ⟨vg, Fg, rfl, hx8, hSg, hFg⟩; rw [HOS.out]; rw [HGS.out] at hSg; obtain ⟨A9, c9, rfl, _, _⟩ := hSg.form; have hN3 := nodup_more HN2.out hSg.nodup HFl2.out hFg; have hz8 := size_of_ext hx8)
                  | (at_builtin; refine wpList_appN (E := sRow) (d := g) (G := Fg) rfl _ _ _ rfl tIIr rfl rfl rfl (by simp) ⟨_, rfl, hSg⟩ rfl (by simp [Value.oneCell']) (hS2.toExt hx8) hN3 hlk (by omega) ?_; intro v' w' F' hS' hC' hN' hF'))
                refine ⟨⟨k2 + 1, F', by go_num, by omega, by rw [HST.out]; exact hS', Lib.hid hN', Lib.hid (fun b hb => ?_), hC'.isExt (trans_ext hyi hx8) HF2.out⟩, by simp [intOf]; omega⟩
                have hzw := size_of_ext hyi
                rcases hF' b hb with h | h | h
                · exact HF2.out b h
                · have := hFg b h; omega
                · omega
            · have HST := Lib.hid (show joinL un d.1 (d.2.2.take (k + 1)) d'.1 d'.2.2 = jl ++ jrow un d.1 r d'.1 d'.2.2 by rw [Hst.out])
              rw [show d'.2.2.take k2 = d'.2.2 from List.take_of_length_le (by omega)] at hS2
              rw [← HST.out] at hS2
              obtain ⟨A7, c7, rfl, _, _⟩ := hS2.form
              by_cases h4 : (joinL un d.1 (d.2.2.take (k + 1)) d'.1 d'.2.2).length ≤ 4000
              · obtain ⟨jn, hjn⟩ : ∃ l, joinL un d.1 (d.2.2.take (k + 1)) d'.1 d'.2.2 = l := ⟨_, rfl⟩
                have HJN := Lib.hid hjn
                rw [hjn] at hS2 h4 ⊢
                clear hjn
                go_wp2
                exact ⟨⟨k + 1, F2, by go_num, by omega, by rw [HJN.out]; exact h4, by rw [HJN.out]; exact hS2, HN2, HF2, hyi⟩, by simp [intOf]; omega⟩
              · have HZ := Lib.hid (HJ.out.2 (fun h => h4 (Nat.le_trans HMO.out h)))
                obtain ⟨jn, hjn⟩ : ∃ l, joinL un d.1 (d.2.2.take (k + 1)) d'.1 d'.2.2 = l := ⟨_, rfl⟩
                rw [hjn] at hS2 h4 ⊢
                obtain ⟨lr8, r80, r81, r82, fr8⟩ := box3 (R6.toExt hyi)
                have h5 : 4000 < jn.length := by omega
                clear hjn
                go_wp2
                refine bodyPost_ret (v := .tuple #[.agg #[.slice none 0 0, .int .i64 0, .slice none 0 0], .bool false]) (by simp [results, Try.results50, go_sem, *]) rfl (vrOut_none HZ.out rfl (by refine x'z ?_; repeat (with_reducible (first | exact x'a _ _ | exact x'b _ | exact x'c (by assumption) | refine x'd ?_ (by assumption) | refine x'e ?_ _ | refine x'f ?_ _ | refine x'g ?_ | refine x'h ?_ ?_ _ | refine x'i ?_ _ | refine x'j ?_ | refine x'k ?_ _ | refine x'l ?_ _ _ | refine x'm ?_ | assumption | (refine x'n ?_; omega) | omega))))
        · obtain rfl : k = d.2.2.length := by omega
          rw [List.take_of_length_le (Nat.le_refl _)] at hS hjl
          have HZ := Lib.hid (HJ.out.1 hjl)
          have HLE := Lib.hid (show ∀ x ∈ joinL un d.1 d.2.2 d'.1 d'.2.2, x.length ≤ 1000000000 from fun x hx => by
            unfold joinL at hx
            simp only [List.mem_flatMap, List.mem_map] at hx
            obtain ⟨_, _, _, _, rfl⟩ := hx
            simp [glueR]
            omega)
          obtain ⟨jn, hjn⟩ : ∃ l, joinL un d.1 d.2.2 d'.1 d'.2.2 = l := ⟨_, rfl⟩
          rw [hjn] at hS hjl HZ HLE
          obtain ⟨A7, c7, rfl, hc7, _, rv7⟩ := hS.view (V := vSl 1 vI) (sSl_v sI_v)
          obtain ⟨sr, hsr⟩ : ∃ s, sortR jn = s := ⟨_, rfl⟩
          have HSR := Lib.hid hsr
          rw [hsr] at HZ
          have hjb : jn.length ≤ 1000000000 := by omega
          clear hjn hsr
          go_wp2_with (go_at_call 126; refine (sorted_any jn.length A7 c7 jn _ (Nat.le_refl _) hjb hc7 HLE.out rv7).mono ?_; rintro e w8 ⟨v8, F8, rfl, hx8, hS8, hN8, hF8⟩; rw [HSR.out] at hS8; obtain ⟨A8, c8, rfl, _, _⟩ := hS8.form; obtain ⟨lr8, r80, r81, r82, fr8⟩ := box3 (R6.toExt (trans_ext hy hx8)))
          have hz6 := size_of_ext hy
          have hz4 := size_of_ext hx6
          have hzw := size_of_ext xw4
          have hSu8 := hSu.toExt (trans_ext hy hx8)
          have hltu := hSu.lt
          refine bodyPost_ret (v := .tuple #[.agg #[.slice Au un.length cu, .int .i64 un.length, .slice A8 sr.length c8], .bool true]) (by simp [results, Try.results50, go_sem, *]) rfl ⟨_, _, _, Fu ++ F8, by rw [HZ.out]; rfl, (by refine x'z ?_; repeat (with_reducible (first | exact x'a _ _ | exact x'b _ | exact x'c (by assumption) | refine x'd ?_ (by assumption) | refine x'e ?_ _ | refine x'f ?_ _ | refine x'g ?_ | refine x'h ?_ ?_ _ | refine x'i ?_ _ | refine x'j ?_ | refine x'k ?_ _ | refine x'l ?_ _ _ | refine x'm ?_ | assumption | (refine x'n ?_; omega) | omega))), ?_, ?_, fun b hb => ?_⟩
          · rw [HZ.out]
            refine sVR_mk (hSu8.chg (G := [w.heap.size + 1 + 1]) (by repeat (with_reducible (first | exact Chg.refl _ _ | refine Chg.trans0 ?_ (by assumption) | refine Chg.extS ?_ _ | refine Chg.alloc ?_ _ | refine Chg.drew ?_ | refine Chg.setCell ?_ (.inl (by simp)) _))) ?_) (OD.chg (E := sII) (G := [w.heap.size + 1 + 1]) ⟨_, rfl, hS8⟩ (by repeat (with_reducible (first | exact Chg.refl _ _ | refine Chg.trans0 ?_ (by assumption) | refine Chg.extS ?_ _ | refine Chg.alloc ?_ _ | refine Chg.drew ?_ | refine Chg.setCell ?_ (.inl (by simp)) _))) ?_)
            · intro b hb h
              have := HFu.out b hb
              rw [List.mem_singleton.1 h] at this
              omega
            · intro b hb h
              have := hF8 b hb
              rw [List.mem_singleton.1 h] at this
              omega
          · exact nodup_more (n := W6.heap.size) hSu.nodup hN8 hltu (fun b hb => by have := hF8 b hb; omega)
          · rcases List.mem_append.1 hb with h | h
            · have := HFu.out b h; omega
            · have := hF8 b h; omega
end Go.Proofs.Ytfigcfajkilhiaa
namespace Go.Proofs.Ytfigcfajkilhiaa
open Go.RowKit
theorem pick_okv {r cols : List Int} (hr : rowV r = true) (hc : ∀ v ∈ cols, 0 ≤ v ∧ v < r.length) : rowV (pickL r cols) = true := by
  rw [rowV_iff] at hr ⊢
  intro x hx
  unfold pickL at hx
  obtain ⟨v, hv, rfl⟩ := List.mem_map.1 hx
  have := hc v hv
  rw [getDl _ _ (show v.toNat < r.length by omega)]
  exact hr _ (List.getElem_mem _)
theorem projR_ok {d : Rd} {cols : List Int} (h : rowsB d.1 d.2 = true) (hf : fitsC d.1 cols = true) : projR d cols = some ((cols.length : Int), sortR (d.2.map fun r => pickL r cols)) := by
  obtain ⟨f1, f2⟩ := fitsC_iff.1 hf
  obtain ⟨a1, a2, a3, a4, a5⟩ := rowsB_iff.1 h
  unfold projR
  rw [if_pos ⟨h, hf⟩]
  refine newR_some (rowsIn_iff.2 fun r hr => ?_) (by omega) (by omega) ?_
  · obtain ⟨s, hs, rfl⟩ := List.mem_map.1 hr
    have h4 := a4 s hs
    exact ⟨by rw [pickL_length], pick_okv h4.2 fun v hv => by have := f2 v hv; omega⟩
  · refine Nat.le_trans (sortR_length _) ?_
    rw [List.length_map]
    exact a3
theorem brel_of {a : Int} {rows : List (List Int)} (ha : 0 ≤ a ∧ a ≤ 5) (hn : rows.length ≤ 4000) (hl : ∀ x ∈ rows, x.length ≤ 5) : BRel (a, rows) := by
  have h2 := sum_len (m := 5) (l := rows) hl
  exact ⟨⟨by dsimp only; omega, by dsimp only; omega⟩, by dsimp only; omega, by dsimp only; omega⟩
theorem iqf_vq {d : Dbd} {q : Qd} (h : iqfB d q = true) : vqB q = true := by
  unfold iqfB at h
  simp only [Bool.and_eq_true] at h
  exact h.1.1
theorem bind_few {d : Dbd} {q : Qd} (h : iqfB d q = true) (hd : FewD d) (hq : FewQ q) : bindR d q = some (q.1, allB d q) ∧ (allB d q).length ≤ 4000 ∧ rowsB q.1 (allB d q) = true := by
  have hn := few_bindings (qok h) hd hq
  refine ⟨?_, hn, by rw [allB_rowsB (qok h)]; exact decide_eq_true hn⟩
  unfold bindR
  rw [if_pos ⟨h, hn⟩]
theorem out_fit {d : Dbd} {q : Qd} (h : iqfB d q = true) : fitsC q.1 q.2.2 = true := fitsC_iff.2 ⟨(vqB_facts (iqf_vq h)).2.1, (qok h).out⟩
theorem eval_few {d : Dbd} {q : Qd} (h : iqfB d q = true) (hd : FewD d) (hq : FewQ q) :
    ∃ p, projR (q.1, allB d q) q.2.2 = some p ∧ evalR d q = some p ∧ BRel p := by
  obtain ⟨h1, h2, h3⟩ := bind_few h hd hq
  have h4 := projR_ok (d := (q.1, allB d q)) h3 (out_fit h)
  have h5 := (vqB_facts (iqf_vq h)).2.1
  refine ⟨_, h4, ?_, brel_of ⟨by omega, by omega⟩ ?_ fun x hx => ?_⟩
  · rw [evalR_some h1, h4]
  · refine Nat.le_trans (sortR_length _) ?_
    rw [List.length_map]
    exact h2
  · obtain ⟨s, _, rfl⟩ := List.mem_map.1 (mem_sortR.1 hx)
    rw [pickL_length]
    exact h5
theorem allB_rows {d : Dbd} {q : Qd} (h : iqfB d q = true) : ∀ x ∈ allB d q, (x.length : Int) = q.1 ∧ x.length ≤ 5 := fun x hx => by
  have h1 := (allB_row (qok h) hx).1
  have h5 := (qok h).n5
  exact ⟨h1, by omega⟩
end Go.Proofs.Ytfigcfajkilhiaa
