/- Contracts of functions that the statement reaches. -/
import Derived.Test.YtfigcfajkilhiaaGreatE24
import Derived.Test.YtfigcfajkilhiaaGreatE19
import Derived.Test.YtfigcfajkilhiaaGreatE21
import Derived.Test.YtfigcfajkilhiaaGreatE27
import Derived.Test.YtfigcfajkilhiaaGreatE17
namespace Go.Proofs.YtfigcfajkilhiaaGreat
open Go.RowKit
def jrow (un va r vb : List Int) (rb : List (List Int)) : List (List Int) := (rb.filter fun s => agreeB va r vb s).map fun s => glueR un va r vb s
theorem joinL_step {un va vb : List Int} {ra rb : List (List Int)} {k : Nat} (h : k < ra.length) : joinL un va (ra.take (k + 1)) vb rb = joinL un va (ra.take k) vb rb ++ jrow un va ra[k] vb rb := by
  unfold joinL jrow
  rw [List.take_succ_eq_append_getElem h, List.flatMap_append]
  simp
theorem jrow_step {un va r vb : List Int} {rb : List (List Int)} {k : Nat} (h : k < rb.length) : jrow un va r vb (rb.take (k + 1)) = jrow un va r vb (rb.take k) ++ (if agreeB va r vb rb[k] = true then [glueR un va r vb rb[k]] else []) := by
  unfold jrow
  rw [List.take_succ_eq_append_getElem h, List.filter_append, List.filter_cons, List.filter_nil, List.map_append]
  by_cases h1 : agreeB va r vb rb[k] = true <;> simp [h1]
theorem jrow_len {un va r vb : List Int} {rb : List (List Int)} {k : Nat} : (jrow un va r vb (rb.take k)).length ≤ k := by
  unfold jrow
  rw [List.length_map]
  exact Nat.le_trans (List.length_filter_le _ _) (by simp; omega)
theorem joinL_mono {un va vb : List Int} {ra rb : List (List Int)} {k : Nat} : (joinL un va (ra.take k) vb rb).length ≤ (joinL un va ra vb rb).length := by
  have : joinL un va ra vb rb = joinL un va (ra.take k) vb rb ++ joinL un va (ra.drop k) vb rb := by
    unfold joinL
    rw [← List.flatMap_append, List.take_append_drop]
  rw [this]
  simp
theorem glueO_get {un va r vb s : List Int} (h : un.all (okG va r vb s) = agreeB va r vb s) (h2 : agreeB va r vb s = true) : glueO un va r vb s = some (glueR un va r vb s) := by
  unfold glueO
  rw [h, h2]
  rfl
set_option maxRecDepth 100000 in
set_option maxHeartbeats 16000000 in
theorem NaturalJoin_any {A B A' B' : Option Addr} {a b a' b' : Nat} {d d' : VRd} {w : World} (hb : BVR d) (h : vVR w [.slice A d.1.length a, .int .i64 d.2.1, .slice B d.2.2.length b] d) (hb' : BVR d') (h' : vVR w [.slice A' d'.1.length a', .int .i64 d'.2.1, .slice B' d'.2.2.length b'] d') :
    Calls Tryz.prog 56 #[.agg #[.slice A d.1.length a, .int .i64 d.2.1, .slice B d.2.2.length b], .agg #[.slice A' d'.1.length a', .int .i64 d'.2.1, .slice B' d'.2.2.length b']] w (VROut (joinR d d') w) := by
  obtain ⟨r1, r2, _⟩ := vVR_get h
  obtain ⟨s1, s2, _⟩ := vVR_get h'
  have r3 := (vII_get (vRel_get r2).2).2
  have s3 := (vII_get (vRel_get s2).2).2
  have HVa := Lib.hid h
  have HVb := Lib.hid h'
  have Hba := Lib.hid hb
  have Hbb := Lib.hid hb'
  obtain ⟨t1, ht1⟩ : ∃ t, vrB d = t := ⟨_, rfl⟩
  obtain ⟨t2, ht2⟩ : ∃ t, vrB d' = t := ⟨_, rfl⟩
  have HT1 := Lib.hid ht1
  have HT2 := Lib.hid ht2
  clear h h' hb hb' r2 s2 ht1 ht2
  go_enter Tryz.func56, Tryz.ntmps56
  go_upto_region 1 with fail
  refine wp_name ?_
  intro W hW
  have xW : ∃ y, W = ext w y := by rw [hW.out]; exact (by refine x'z ?_; repeat (with_reducible (first | exact x'a _ _ | exact x'b _ | exact x'c (by assumption) | refine x'd ?_ (by assumption) | refine x'e ?_ _ | refine x'f ?_ _ | refine x'g ?_ | refine x'h ?_ ?_ _ | refine x'i ?_ _ | refine x'j ?_ | refine x'k ?_ _ | refine x'l ?_ _ _ | refine x'm ?_ | assumption | (refine x'n ?_; omega) | omega)))
  have BW0 : BoxAt W (w.heap.size) #[.slice A d.1.length a, .int .i64 d.2.1, .slice B d.2.2.length b] := by rw [hW.out]; refine ⟨?_, fun j => ?_, fun j => ?_⟩ <;> go_simp
  obtain ⟨lW0, bW0, fW0⟩ := BW0
  have cW0_0 : W.cell? ⟨w.heap.size, 0, none⟩ = some (.slice A d.1.length a) := bW0 0
  have cW0_1 : W.cell? ⟨w.heap.size, 1, none⟩ = some (.int .i64 d.2.1) := bW0 1
  have cW0_2 : W.cell? ⟨w.heap.size, 2, none⟩ = some (.slice B d.2.2.length b) := bW0 2
  have BW1 : BoxAt W (w.heap.size + 1) #[.slice A' d'.1.length a', .int .i64 d'.2.1, .slice B' d'.2.2.length b'] := by rw [hW.out]; refine ⟨?_, fun j => ?_, fun j => ?_⟩ <;> go_simp
  obtain ⟨lW1, bW1, fW1⟩ := BW1
  have cW1_0 : W.cell? ⟨w.heap.size + 1, 0, none⟩ = some (.slice A' d'.1.length a') := bW1 0
  have cW1_1 : W.cell? ⟨w.heap.size + 1, 1, none⟩ = some (.int .i64 d'.2.1) := bW1 1
  have cW1_2 : W.cell? ⟨w.heap.size + 1, 2, none⟩ = some (.slice B' d'.2.2.length b') := bW1 2
  have BW2 : BoxAt W (w.heap.size + 1 + 1) #[.slice none 0 0, .int .i64 0, .slice none 0 0] := by rw [hW.out]; refine ⟨?_, fun j => ?_, fun j => ?_⟩ <;> go_simp
  obtain ⟨lW2, bW2, fW2⟩ := BW2
  have cW2_0 : W.cell? ⟨w.heap.size + 1 + 1, 0, none⟩ = some (.slice none 0 0) := bW2 0
  have cW2_1 : W.cell? ⟨w.heap.size + 1 + 1, 1, none⟩ = some (.int .i64 0) := bW2 1
  have cW2_2 : W.cell? ⟨w.heap.size + 1 + 1, 2, none⟩ = some (.slice none 0 0) := bW2 2
  clear hW
  have PW : BoxAt W w.heap.size #[.slice A d.1.length a, .int .i64 d.2.1, .slice B d.2.2.length b] := ⟨lW0, bW0, fW0⟩
  have QW : BoxAt W (w.heap.size + 1) #[.slice A' d'.1.length a', .int .i64 d'.2.1, .slice B' d'.2.2.length b'] := ⟨lW1, bW1, fW1⟩
  have RW : BoxAt W (w.heap.size + 1 + 1) #[.slice none 0 0, .int .i64 0, .slice none 0 0] := ⟨lW2, bW2, fW2⟩
  cases t1 with
  | false =>
    have HZ := Lib.hid (show joinR d d' = none by unfold joinR; rw [HT1.out]; simp)
    go_wp2_with (go_at_call 80; refine (IsValidVarRelation_any Hba.out (VD.toExt HVa.out xW)).mono ?_; rintro e w3 ⟨rfl, hx3⟩; rw [HT1.out]; obtain ⟨l3, a3, a3', a3'', f3⟩ := box3 (RW.toExt hx3))
    refine bodyPost_ret (v := .tuple #[.agg #[.slice none 0 0, .int .i64 0, .slice none 0 0], .bool false]) (by simp [results, Tryz.results56, go_sem, *]) rfl (vrOut_none HZ.out rfl (by refine x'z ?_; repeat (with_reducible (first | exact x'a _ _ | exact x'b _ | exact x'c (by assumption) | refine x'd ?_ (by assumption) | refine x'e ?_ _ | refine x'f ?_ _ | refine x'g ?_ | refine x'h ?_ ?_ _ | refine x'i ?_ _ | refine x'j ?_ | refine x'k ?_ _ | refine x'l ?_ _ _ | refine x'm ?_ | assumption | (refine x'n ?_; omega) | omega))))
  | true =>
    cases t2 with
    | false =>
      have HZ := Lib.hid (show joinR d d' = none by unfold joinR; rw [HT2.out]; simp)
      go_wp2_with (first
        | (go_at_call 80; with_reducible refine (IsValidVarRelation_any Hba.out (VD.toExt HVa.out ?_)).mono ?_; (focus (exact xW)); rintro e w3 ⟨rfl, hx3⟩; rw [HT1.out]; obtain ⟨l3, a3, a3', a3'', f3⟩ := box3 (QW.toExt hx3))
        | (go_at_call 80; with_reducible refine (IsValidVarRelation_any Hbb.out (VD.toExt HVb.out ?_)).mono ?_; (focus (exact (trans_ext xW hx3))); rintro e w4 ⟨rfl, hx4⟩; rw [HT2.out]; obtain ⟨l4, a4, a4', a4'', f4⟩ := box3 (RW.toExt (trans_ext hx3 hx4))))
      refine bodyPost_ret (v := .tuple #[.agg #[.slice none 0 0, .int .i64 0, .slice none 0 0], .bool false]) (by simp [results, Tryz.results56, go_sem, *]) rfl (vrOut_none HZ.out rfl (by refine x'z ?_; repeat (with_reducible (first | exact x'a _ _ | exact x'b _ | exact x'c (by assumption) | refine x'd ?_ (by assumption) | refine x'e ?_ _ | refine x'f ?_ _ | refine x'g ?_ | refine x'h ?_ ?_ _ | refine x'i ?_ _ | refine x'j ?_ | refine x'k ?_ _ | refine x'l ?_ _ _ | refine x'm ?_ | assumption | (refine x'n ?_; omega) | omega))))
    | true =>
      have HA := Lib.hid (vrB_iff.1 HT1.out)
      have HB := Lib.hid (vrB_iff.1 HT2.out)
      go_upto_region 3 with (first
        | (go_at_call 80; with_reducible refine (IsValidVarRelation_any Hba.out (VD.toExt HVa.out ?_)).mono ?_; (focus (exact xW)); rintro e w3 ⟨rfl, hx3⟩; rw [HT1.out]; obtain ⟨l3, a3, a3', a3'', f3⟩ := box3 (QW.toExt hx3))
        | (go_at_call 80; with_reducible refine (IsValidVarRelation_any Hbb.out (VD.toExt HVb.out ?_)).mono ?_; (focus (exact (trans_ext xW hx3))); rintro e w4 ⟨rfl, hx4⟩; rw [HT2.out]))
      have x4 := trans_ext hx3 hx4
      have xw4 := trans_ext xW x4
      have P4 := PW.toExt x4
      have Q4 := QW.toExt x4
      have R4 := RW.toExt x4
      obtain ⟨lp, p0, p1, p2, fp⟩ := box3 P4
      obtain ⟨lq, q0, q1, q2, fq⟩ := box3 Q4
      have hva5 : d.1.length ≤ 5 := HA.out.len
      have hvb5 : d'.1.length ≤ 5 := HB.out.len
      clear PW QW RW lW0 bW0 fW0 cW0_0 cW0_1 cW0_2 lW1 bW1 fW1 cW1_0 cW1_1 cW1_2 lW2 bW2 fW2 cW2_0 cW2_1 cW2_2 l3 a3 a3' a3'' f3 xW hx3 hx4
      go_wp2_with fail
      refine (unite_v (by omega) (r1.toExt xw4) (by omega) (s1.toExt xw4)).mono ?_
      rintro e W6 ⟨vu, Fu, rfl, hx6, hSu, hFu⟩
      obtain ⟨Au, cu, rfl, _⟩ := hSu.form
      have HFu := Lib.hid hFu
      have hun := uniL_length d'.1 d.1
      have Hun := Lib.hid (fun v (hv : v ∈ uniL d.1 d'.1) => mem_uniL.1 hv)
      have Hag := Lib.hid (fun r s => okG_agree (un := uniL d.1 d'.1) (va := d.1) (r := r) (vb := d'.1) (s := s) (fun v => mem_uniL))
      have HJ : Hid (∀ un, uniL d.1 d'.1 = un → ((joinL un d.1 d.2.2 d'.1 d'.2.2).length ≤ 4000 → joinR d d' = some (un, (un.length : Int), sortR (joinL un d.1 d.2.2 d'.1 d'.2.2))) ∧ (¬ (joinL un d.1 d.2.2 d'.1 d'.2.2).length ≤ 4000 → joinR d d' = none)) := Lib.hid (by
        rintro un rfl
        refine ⟨fun h => ?_, fun h => ?_⟩
        · unfold joinR; rw [if_pos ⟨⟨HT1.out, HT2.out⟩, h⟩]; rfl
        · unfold joinR; rw [if_neg (fun k => h k.2)])
      obtain ⟨un, hune⟩ : ∃ u, uniL d.1 d'.1 = u := ⟨_, rfl⟩
      have HJ := Lib.hid (HJ.out un hune)
      rw [hune] at hSu hun Hun Hag ⊢
      have P6 := P4.toExt hx6
      have Q6 := Q4.toExt hx6
      have R6 := R4.toExt hx6
      have xw6 := trans_ext xw4 hx6
      have hunx : un.length ≤ 10 := by omega
      have hra := HA.out.cnt
      have hrb := HB.out.cnt
      have HAl := Lib.hid HA.out.rl
      have HBl := Lib.hid HB.out.rl
      have hRs := R6.1
      have hw4s := R4.1
      clear hune lp p0 p1 p2 fp lq q0 q1 q2 fq P4 Q4 R4 HT1 HT2 HVa HVb Hba Hbb HA HB hFu
      obtain ⟨lp6, p60, p61, p62, fp6⟩ := box3 P6
      go_wp2_with fail
      go_loopw [7, 32] (fun v i wr => ∃ (k : Nat) (F : List Nat), i = .int .i64 k ∧ k ≤ d.2.2.length ∧ (joinL un d.1 (d.2.2.take k) d'.1 d'.2.2).length ≤ 4000 ∧ SV 26 1 sRow wr v (joinL un d.1 (d.2.2.take k) d'.1 d'.2.2) F ∧ Hid F.Nodup ∧ Hid (∀ x ∈ F, W6.heap.size ≤ x) ∧ ∃ y, wr = ext W6 y) (fun _ i _ => d.2.2.length - (intOf i).toNat)
      case atStart => exact ⟨0, [], rfl, by omega, by simp [joinL], by simpa [joinL] using SV.nil, Lib.hid (by simp), Lib.hid (by simp), refl_ext W6⟩
      case round =>
        obtain ⟨k, F, rfl, hk, hjl, hS, HN, HF, hy⟩ := hrel
        clear lp6 p60 p61 p62 fp6
        have hw := trans_ext xw6 hy
        by_cases hlt : k < d.2.2.length
        · obtain ⟨br, orr, A4, c4, rfl, hbr0, hcr0, hvr⟩ := r3.atV hlt
          have hbr : br < wr.heap.size := Nat.lt_of_lt_of_le hbr0 (size_of_ext hw)
          have hcr : wr.cell? ⟨br, orr + k, none⟩ = some (.slice A4 d.2.2[k].length c4) := by obtain ⟨y, e⟩ := hw; rw [e, cell_ext hbr0]; exact hcr0
          clear hcr0
          have lr := HAl.out _ (List.getElem_mem hlt)
          have Hst := Lib.hid (joinL_step (un := un) (va := d.1) (vb := d'.1) (rb := d'.2.2) hlt)
          have HMO := Lib.hid (joinL_mono (un := un) (va := d.1) (vb := d'.1) (ra := d.2.2) (rb := d'.2.2) (k := k + 1))
          obtain ⟨r, hr⟩ : ∃ r, d.2.2[k] = r := ⟨_, rfl⟩
          rw [hr] at hcr hvr lr Hst
          obtain ⟨jl, hjle⟩ : ∃ l, joinL un d.1 (d.2.2.take k) d'.1 d'.2.2 = l := ⟨_, rfl⟩
          rw [hjle] at Hst hjl hS
          have HLR := Lib.hid lr
          have HSU := Lib.hid (hSu.toExt hy)
          clear hr hjle lr
          obtain ⟨lp7, p70, p71, p72, fp7⟩ := box3 (P6.toExt hy)
          obtain ⟨lq7, q70, q71, q72, fq7⟩ := box3 (Q6.toExt hy)
          obtain ⟨wo, rfl⟩ : ∃ wo : World, wo = wr := ⟨_, rfl⟩
          have HS := Lib.hid hS
          clear hS
          go_wp2_with fail
          go_loopw [7, 40] (fun v j wi => ∃ (k2 : Nat) (F2 : List Nat), j = .int .i64 k2 ∧ k2 ≤ d'.2.2.length ∧ SV 26 1 sRow wi v (jl ++ jrow un d.1 r d'.1 (d'.2.2.take k2)) F2 ∧ Hid F2.Nodup ∧ Hid (∀ x ∈ F2, W6.heap.size ≤ x) ∧ ∃ y, wi = ext W6 y) (fun _ j _ => d'.2.2.length - (intOf j).toNat)
          case atStart => exact ⟨0, F, rfl, by omega, by simpa [jrow] using HS.out, HN, HF, hy⟩
          case round =>
            obtain ⟨k2, F2, rfl, hk2, hS2, HN2, HF2, hyi⟩ := hrel
            have hwi := trans_ext xw6 hyi
            clear lp7 p70 p71 p72 fp7 lq7 q70 q71 q72 fq7
            obtain ⟨lp8, p80, p81, p82, fp8⟩ := box3 (P6.toExt hyi)
            obtain ⟨lq8, q80, q81, q82, fq8⟩ := box3 (Q6.toExt hyi)
            have hjl2 := jrow_len (un := un) (va := d.1) (r := r) (vb := d'.1) (rb := d'.2.2) (k := k2)
            by_cases hlt2 : k2 < d'.2.2.length
            · obtain ⟨bs, os, A5, c5, rfl, hbs, hcs, hvs⟩ := (s3.toExt hwi).atV hlt2
              have ls := HBl.out _ (List.getElem_mem hlt2)
              have HJS := Lib.hid (jrow_step (un := un) (va := d.1) (r := r) (vb := d'.1) hlt2)
              obtain ⟨s, hs⟩ : ∃ s, d'.2.2[k2] = s := ⟨_, rfl⟩
              rw [hs] at hcs hvs ls HJS
              obtain ⟨jr, hjr⟩ : ∃ j, jrow un d.1 r d'.1 (d'.2.2.take k2) = j := ⟨_, rfl⟩
              rw [hjr] at HJS hS2 hjl2
              have HLS := Lib.hid ls
              obtain ⟨o, ho⟩ : ∃ o, glueO un d.1 r d'.1 s = o := ⟨_, rfl⟩
              have HG := Lib.hid ho
              have hos : o.isSome = agreeB d.1 r d'.1 s := by rw [← ho]; exact glueO_some (Hag.out r s)
              have hget := Lib.hid (fun h => glueO_get (Hag.out r s) h)
              obtain ⟨t, ht⟩ : ∃ t, agreeB d.1 r d'.1 s = t := ⟨_, rfl⟩
              rw [ht] at hos HJS
              have HOS := Lib.hid hos
              have HTT := Lib.hid ht
              have hruw := (hSu.toExt hyi).toView sI_v
              have hlk : (jl ++ jr).length + 1 ≤ 2000000000 := by rw [List.length_append]; omega
              have HFl2 := Lib.hid hS2.lt
              clear hs ho hos ht hjr ls
              cases t with
              | false =>
                have HST := Lib.hid (show jrow un d.1 r d'.1 (d'.2.2.take (k2 + 1)) = jr by rw [HJS.out, if_neg (by simp), List.append_nil])
                go_wp2_with (go_at_call 83; refine (glue_any (by omega) hruw (by omega) (r1.toExt hwi) HLR.out (hvr.toExt hwi) (by omega) (s1.toExt hwi) HLS.out hvs Hun.out).mono ?_; rw [HG.out]; rintro e w8 ⟨vg, Fg, rfl, hx8, hSg, hFg⟩; rw [HOS.out])
                exact ⟨⟨k2 + 1, F2, by go_num, by omega, by rw [HST.out]; exact hS2.toExt hx8, HN2, HF2, trans_ext hyi hx8⟩, by simp [intOf]; omega⟩
              | true =>
                have HST := Lib.hid (show jl ++ jrow un d.1 r d'.1 (d'.2.2.take (k2 + 1)) = jl ++ jr ++ [glueR un d.1 r d'.1 s] by rw [HJS.out, if_pos rfl, List.append_assoc])
                have HGS := Lib.hid (show o.getD [] = glueR un d.1 r d'.1 s by rw [← HG.out, hget.out HTT.out]; rfl)
                obtain ⟨g, hg⟩ : ∃ g, glueR un d.1 r d'.1 s = g := ⟨_, rfl⟩
                rw [hg] at HST HGS
                clear hg
                go_wp2_with (first
                  | (go_at_call 83; refine (glue_any (by omega) hruw (by omega) (r1.toExt hwi) HLR.out (hvr.toExt hwi) (by omega) (s1.toExt hwi) HLS.out hvs Hun.out).mono ?_; rw [HG.out]; rintro e w8 ⟨vg, Fg, rfl, hx8, hSg, hFg⟩; rw [HOS.out]; rw [HGS.out] at hSg; obtain ⟨A9, c9, rfl, _, _⟩ := hSg.form; have hN3 := nodup_more HN2.out hSg.nodup HFl2.out hFg; have hz8 := size_of_ext hx8)
                  | (at_builtin; refine wpList_appN (E := sRow) (d := g) (G := Fg) rfl _ _ _ rfl tIIr rfl rfl rfl (by simp) ⟨_, rfl, hSg⟩ rfl (by simp [Value.oneCell']) (hS2.toExt hx8) hN3 hlk (by omega) ?_; intro v' w' F' hS' hC' hN' hF'))
                refine ⟨⟨k2 + 1, F', by go_num, by omega, by rw [HST.out]; exact hS', Lib.hid hN', Lib.hid (fun b hb => ?_), hC'.isExt (trans_ext hyi hx8) HF2.out⟩, by simp [intOf]; omega⟩
                have hzw := size_of_ext hyi
                rcases hF' b hb with h | h | h
                · exact HF2.out b h
                · have := hFg b h; omega
                · omega
            · have HST := Lib.hid (show joinL un d.1 (d.2.2.take (k + 1)) d'.1 d'.2.2 = jl ++ jrow un d.1 r d'.1 d'.2.2 by rw [Hst.out])
              rw [show d'.2.2.take k2 = d'.2.2 from List.take_of_length_le (by omega)] at hS2
              rw [← HST.out] at hS2
              obtain ⟨A7, c7, rfl, _, _⟩ := hS2.form
              by_cases h4 : (joinL un d.1 (d.2.2.take (k + 1)) d'.1 d'.2.2).length ≤ 4000
              · obtain ⟨jn, hjn⟩ : ∃ l, joinL un d.1 (d.2.2.take (k + 1)) d'.1 d'.2.2 = l := ⟨_, rfl⟩
                have HJN := Lib.hid hjn
                rw [hjn] at hS2 h4 ⊢
                clear hjn
                go_wp2
                exact ⟨⟨k + 1, F2, by go_num, by omega, by rw [HJN.out]; exact h4, by rw [HJN.out]; exact hS2, HN2, HF2, hyi⟩, by simp [intOf]; omega⟩
              · have HZ := Lib.hid (HJ.out.2 (fun h => h4 (Nat.le_trans HMO.out h)))
                obtain ⟨jn, hjn⟩ : ∃ l, joinL un d.1 (d.2.2.take (k + 1)) d'.1 d'.2.2 = l := ⟨_, rfl⟩
                rw [hjn] at hS2 h4 ⊢
                obtain ⟨lr8, r80, r81, r82, fr8⟩ := box3 (R6.toExt hyi)
                have h5 : 4000 < jn.length := by omega
                clear hjn
                go_wp2
                refine bodyPost_ret (v := .tuple #[.agg #[.slice none 0 0, .int .i64 0, .slice none 0 0], .bool false]) (by simp [results, Tryz.results56, go_sem, *]) rfl (vrOut_none HZ.out rfl (by refine x'z ?_; repeat (with_reducible (first | exact x'a _ _ | exact x'b _ | exact x'c (by assumption) | refine x'd ?_ (by assumption) | refine x'e ?_ _ | refine x'f ?_ _ | refine x'g ?_ | refine x'h ?_ ?_ _ | refine x'i ?_ _ | refine x'j ?_ | refine x'k ?_ _ | refine x'l ?_ _ _ | refine x'm ?_ | assumption | (refine x'n ?_; omega) | omega))))
        · obtain rfl : k = d.2.2.length := by omega
          rw [List.take_of_length_le (Nat.le_refl _)] at hS hjl
          have HZ := Lib.hid (HJ.out.1 hjl)
          have HLE := Lib.hid (show ∀ x ∈ joinL un d.1 d.2.2 d'.1 d'.2.2, x.length ≤ 1000000000 from fun x hx => by
            unfold joinL at hx
            simp only [List.mem_flatMap, List.mem_map] at hx
            obtain ⟨_, _, _, _, rfl⟩ := hx
            simp [glueR]
            omega)
          obtain ⟨jn, hjn⟩ : ∃ l, joinL un d.1 d.2.2 d'.1 d'.2.2 = l := ⟨_, rfl⟩
          rw [hjn] at hS hjl HZ HLE
          obtain ⟨A7, c7, rfl, hc7, _, rv7⟩ := hS.view (V := vSl 1 vI) (sSl_v sI_v)
          obtain ⟨sr, hsr⟩ : ∃ s, sortR jn = s := ⟨_, rfl⟩
          have HSR := Lib.hid hsr
          rw [hsr] at HZ
          have hjb : jn.length ≤ 1000000000 := by omega
          clear hjn hsr
          go_wp2_with (go_at_call 93; refine (sorted_any jn.length A7 c7 jn _ (Nat.le_refl _) hjb hc7 HLE.out rv7).mono ?_; rintro e w8 ⟨v8, F8, rfl, hx8, hS8, hN8, hF8⟩; rw [HSR.out] at hS8; obtain ⟨A8, c8, rfl, _, _⟩ := hS8.form; obtain ⟨lr8, r80, r81, r82, fr8⟩ := box3 (R6.toExt (trans_ext hy hx8)))
          have hz6 := size_of_ext hy
          have hz4 := size_of_ext hx6
          have hzw := size_of_ext xw4
          have hSu8 := hSu.toExt (trans_ext hy hx8)
          have hltu := hSu.lt
          refine bodyPost_ret (v := .tuple #[.agg #[.slice Au un.length cu, .int .i64 un.length, .slice A8 sr.length c8], .bool true]) (by simp [results, Tryz.results56, go_sem, *]) rfl ⟨_, _, _, Fu ++ F8, by rw [HZ.out]; rfl, (by refine x'z ?_; repeat (with_reducible (first | exact x'a _ _ | exact x'b _ | exact x'c (by assumption) | refine x'd ?_ (by assumption) | refine x'e ?_ _ | refine x'f ?_ _ | refine x'g ?_ | refine x'h ?_ ?_ _ | refine x'i ?_ _ | refine x'j ?_ | refine x'k ?_ _ | refine x'l ?_ _ _ | refine x'm ?_ | assumption | (refine x'n ?_; omega) | omega))), ?_, ?_, fun b hb => ?_⟩
          · rw [HZ.out]
            refine sVR_mk (hSu8.chg (G := [w.heap.size + 1 + 1]) (by repeat (with_reducible (first | exact Chg.refl _ _ | refine Chg.trans0 ?_ (by assumption) | refine Chg.extS ?_ _ | refine Chg.alloc ?_ _ | refine Chg.drew ?_ | refine Chg.setCell ?_ (.inl (by simp)) _))) ?_) (OD.chg (E := sII) (G := [w.heap.size + 1 + 1]) ⟨_, rfl, hS8⟩ (by repeat (with_reducible (first | exact Chg.refl _ _ | refine Chg.trans0 ?_ (by assumption) | refine Chg.extS ?_ _ | refine Chg.alloc ?_ _ | refine Chg.drew ?_ | refine Chg.setCell ?_ (.inl (by simp)) _))) ?_)
            · intro b hb h
              have := HFu.out b hb
              rw [List.mem_singleton.1 h] at this
              omega
            · intro b hb h
              have := hF8 b hb
              rw [List.mem_singleton.1 h] at this
              omega
          · exact nodup_more (n := W6.heap.size) hSu.nodup hN8 hltu (fun b hb => by have := hF8 b hb; omega)
          · rcases List.mem_append.1 hb with h | h
            · have := HFu.out b h; omega
            · have := hF8 b h; omega
end Go.Proofs.YtfigcfajkilhiaaGreat
namespace Go.Proofs.YtfigcfajkilhiaaGreat
open Go.RowKit
theorem allB_rows {d : Dbd} {q : Qd} (h : iqfB d q = true) : ∀ x ∈ allB d q, (x.length : Int) = q.1 ∧ x.length ≤ 5 := fun x hx => by
  have h1 := (allB_row (qok h) hx).1
  have h5 := (qok h).n5
  exact ⟨h1, by omega⟩
end Go.Proofs.YtfigcfajkilhiaaGreat
namespace Go.Proofs.YtfigcfajkilhiaaGreat
open Go.RowKit
def evT (d : Dbd) (q : Qd) (ps : List Int) : Option Rd := if iqfB d q = true ∧ ivjB q ps = true then evalR d q else none
def jpre (ps o : List Int) (k m : Nat) (i : Int) : List (Nat × Nat) := jprs ps (o.take k) ++ ((chl 0 i ps).take m).map fun c => (c.toNat, i.toNat)
theorem jpre_zero (ps o : List Int) (k : Nat) (i : Int) : jpre ps o k 0 i = jprs ps (o.take k) := by simp [jpre]
theorem jpre_step {ps o : List Int} {k m : Nat} {i : Int} (h : m < (chl 0 i ps).length) : jpre ps o k (m + 1) i = jpre ps o k m i ++ [((chl 0 i ps)[m].toNat, i.toNat)] := by
  unfold jpre
  rw [List.take_succ_eq_append_getElem h, List.map_append, List.append_assoc]
  rfl
theorem jpre_done {ps o : List Int} {k m : Nat} {i : Int} (hk : k < o.length) (hi : o[k] = i) (hm : (chl 0 i ps).length ≤ m) : jpre ps o k m i = jprs ps (o.take (k + 1)) := by
  unfold jpre
  rw [List.take_of_length_le hm, jprs_take hk, hi]
  rfl
theorem jpre_rest {ps o : List Int} {k m : Nat} {i : Int} (hk : k < o.length) (hi : o[k] = i) : ∃ r, jprs ps o = jpre ps o k m i ++ r := by
  refine ⟨((chl 0 i ps).drop m).map (fun c => (c.toNat, i.toNat)) ++ jprs ps (o.drop (k + 1)), ?_⟩
  unfold jpre
  rw [jprs_all hk, jprs_take hk, hi, List.append_assoc, List.append_assoc, ← List.append_assoc (((chl 0 i ps).take m).map _), ← List.map_append, List.take_append_drop]
  rfl
theorem chl_in {n : Int} : ∀ {ps : List Int} {k : Nat}, ∀ c ∈ chl k n ps, (k : Int) ≤ c ∧ c < (k + ps.length : Nat)
  | [], k, c, h => by simp [chl] at h
  | p :: ps, k, c, h => by
    rw [chl] at h
    have ih := fun (h2 : c ∈ chl (k + 1) n ps) => chl_in (n := n) (ps := ps) (k := k + 1) c h2
    rw [List.length_cons]
    split at h
    · rcases List.mem_cons.1 h with e | h2
      · rw [e]; omega
      · have := ih h2; omega
    · have := ih h; omega
theorem natJ_none {a : List (Nat × Nat)} {c p : Nat} {ds es : List VRd} (h : joinG a ds = some es) (hj : joinR (es.getD p zV) (es.getD c zV) = none) {r : List (Nat × Nat)} {L : List (Nat × Nat)} (hL : L = a ++ [(c, p)] ++ r) : joinG L ds = none := by
  rw [hL]
  refine joinG_none ?_
  rw [joinG_snoc h, hj]
theorem natJ_some {a : List (Nat × Nat)} {c p : Nat} {ds es : List VRd} {x : VRd} (h : joinG a ds = some es) (hj : joinR (es.getD p zV) (es.getD c zV) = some x) : joinG (a ++ [(c, p)]) ds = some (es.set p x) := by
  rw [joinG_snoc h, hj]
theorem elim_root {par : Nat → Int} {L : List (Nat × Nat)} {r : Nat} {N : List Nat} (h : Elim par L r N) : r ∈ N := by
  induction h with
  | nil => simp
  | cons _ _ _ _ ih => simp [ih]
theorem full_ok {d : Dbd} {q : Qd} {ps o : List Int} (hl : ps.length = q.2.1.length) (hps : ∀ x ∈ ps, x < (ps.length : Int)) (ho : ∀ i ∈ o, 0 ≤ i ∧ i < (ps.length : Int)) : OkDs (fullD d q (prs ps o)) := by
  rw [← full_steps]
  exact dnD_ok (upD_ok (OkDs.start d q.2.1) (by rw [List.length_map]; exact hl) hps ho _ (Nat.le_refl _)) (by rw [upD_len, List.length_map]; exact hl) hps ho o.length 0 (by omega)
theorem fullD_len (d : Dbd) (q : Qd) (L : List (Nat × Nat)) : (fullD d q L).length = q.2.1.length := by unfold fullD; rw [runD_len, List.length_map]
def CutJ (o : Option VRd) (wr : World) (va vb : Value) (wx : World) : Prop := ∃ b A a B b2 F, va = .pointer (some ⟨b, 0, none⟩) ∧ vb = .bool o.isSome ∧ BoxAt wx b #[.slice A (o.getD zVR).1.length a, .int .i64 (o.getD zVR).2.1, .slice B (o.getD zVR).2.2.length b2] ∧ sVR wx [.slice A (o.getD zVR).1.length a, .int .i64 (o.getD zVR).2.1, .slice B (o.getD zVR).2.2.length b2] (o.getD zVR) F ∧ F.Nodup ∧ (∀ x ∈ F, wr.heap.size ≤ x) ∧ ∃ y, wx = ext wr y
set_option maxRecDepth 100000 in
set_option maxHeartbeats 16000000 in
theorem EvaluateByJoinTree_any {A B C D : Option Addr} {c e g f1 : Nat} {d : Dbd} {q : Qd} {ps : List Int} {w : World} (hd : WDb d) (h1 : RV 3 vTb w A d) (hb : BQ q) (h2 : vQ w [.int .i64 q.1, .slice B q.2.1.length e, .slice C q.2.2.length g] q) (hp : ps.length ≤ 100000000) (h3 : RI w D ps) :
    Calls Tryz.prog 23 #[.agg #[.slice A d.length c], .agg #[.int .i64 q.1, .slice B q.2.1.length e, .slice C q.2.2.length g], .agg #[.slice D ps.length f1]] w (RelOut (evT d q ps) w) := by
  have HD := Lib.hid hd
  have HB := Lib.hid hb
  have HV := Lib.hid h2
  have hgo := (vQ_get h2).2.1
  have hgl : q.2.2.length ≤ 1000000000 := by have := hb.2.2; omega
  obtain ⟨ot, hot⟩ : ∃ o, fullR d q ps = o := ⟨_, rfl⟩
  have HO := Lib.hid hot
  clear hd hb h2 hot
  go_enter Tryz.func23, Tryz.ntmps23
  go_upto_region 1 with fail
  refine wp_name ?_
  intro W hW
  have xW : ∃ y, W = ext w y := by rw [hW.out]; exact (by refine x'z ?_; repeat (with_reducible (first | exact x'a _ _ | exact x'b _ | exact x'c (by assumption) | refine x'd ?_ (by assumption) | refine x'e ?_ _ | refine x'f ?_ _ | refine x'g ?_ | refine x'h ?_ ?_ _ | refine x'i ?_ _ | refine x'j ?_ | refine x'k ?_ _ | refine x'l ?_ _ _ | refine x'm ?_ | assumption | (refine x'n ?_; omega) | omega)))
  have PW : BoxAt W w.heap.size #[.slice A d.length c] := by rw [hW.out]; refine ⟨?_, fun j => ?_, fun j => ?_⟩ <;> go_simp
  have QW : BoxAt W (w.heap.size + 1) #[.int .i64 q.1, .slice B q.2.1.length e, .slice C q.2.2.length g] := by rw [hW.out]; refine ⟨?_, fun j => ?_, fun j => ?_⟩ <;> go_simp
  have TW : BoxAt W (w.heap.size + 1 + 1) #[.slice D ps.length f1] := by rw [hW.out]; refine ⟨?_, fun j => ?_, fun j => ?_⟩ <;> go_simp
  have RW : BoxAt W (w.heap.size + 1 + 1 + 1) #[.int .i64 0, .slice none 0 0] := by rw [hW.out]; refine ⟨?_, fun j => ?_, fun j => ?_⟩ <;> go_simp
  obtain ⟨lp, p0, fp⟩ := bx1 PW
  obtain ⟨lq, q0, q1, q2, fq⟩ := box3 QW
  obtain ⟨lt, r0, ft⟩ := bx1 TW
  have hWr := RW.1
  clear hW
  cases ot with
  | none =>
    have HZN := Lib.hid (show evT d q ps = none by
      have h := HO.out
      unfold fullR at h
      unfold evT
      split at h
      · cases h
      · rename_i h9; rw [if_neg h9])
    go_wp2_with (go_at_call 12; refine (FullReduction_any HD.out (h1.toExt xW) HB.out (VD.toExt HV.out xW) hp (h3.toExt xW)).mono ?_; rw [HO.out]; rintro e w1 ⟨v1, F1, rfl, hx1, _, _, _⟩; rw [Option.isSome_none]; obtain ⟨lr1, r10, r11, fr1⟩ := bx2 (RW.toExt hx1))
    refine bodyPost_ret (v := .tuple #[.agg #[.int .i64 0, .slice none 0 0], .bool false]) (by simp [results, Tryz.results23, go_sem, *]) rfl (relOut_none HZN.out rfl (by refine x'z ?_; repeat (with_reducible (first | exact x'a _ _ | exact x'b _ | exact x'c (by assumption) | refine x'd ?_ (by assumption) | refine x'e ?_ _ | refine x'f ?_ _ | refine x'g ?_ | refine x'h ?_ ?_ _ | refine x'i ?_ _ | refine x'j ?_ | refine x'k ?_ _ | refine x'l ?_ _ _ | refine x'm ?_ | assumption | (refine x'n ?_; omega) | omega))))
  | some D1 =>
    have hq12 : iqfB d q = true ∧ ivjB q ps = true := by
      have h := HO.out
      unfold fullR at h
      split at h
      · rename_i h9; exact h9
      · cases h
    have hD1 : D1 = fullD d q (prs ps (upL ps)) := by
      have h := HO.out
      unfold fullR at h
      rw [if_pos hq12] at h
      injection h with h
      exact h.symm
    have hjt : jtB q.1.toNat q.2.1 ps = true := by have h := hq12.2; unfold ivjB at h; rw [Bool.and_eq_true] at h; exact h.2
    obtain ⟨r, hY⟩ := yan hq12.1 hjt
    have HORD := Lib.hid hY.ord
    have HUI := Lib.hid hY.ord.ui
    have HRT := Lib.hid hY.ord.root
    have hnn := hY.n
    have hn4 := hY.n4
    have hn1 := hY.n1
    have HEV := Lib.hid (show (match joinG (jprs ps (upL ps)) D1 with | none => none | some ds => projR (ds.getD r zV).2 q.2.2) = evT d q ps by
      have h := hY.eval hq12.1 hY.ord.up hY.ord.jn
      rw [← hD1] at h
      have h2 : evT d q ps = evalR d q := by unfold evT; rw [if_pos hq12]
      rw [h2]
      exact h)
    have HJN := Lib.hid (show ∀ ds, joinG (jprs ps (upL ps)) D1 = some ds → ds.length = q.2.1.length ∧ (ds.getD r zV).2.1 = q.1 ∧ (ds.getD r zV).2.2.length ≤ 4000 ∧ ∀ x ∈ (ds.getD r zV).2.2, x.length ≤ 5 from fun ds hds => by
      rw [hD1] at hds
      obtain ⟨a1, a2, a3⟩ := (hY.join hY.ord.up hY.ord.jn).2 ds hds
      rw [a2]
      exact ⟨a1, rfl, a3, fun x hx => (allB_rows hq12.1 x hx).2⟩)
    have hrn : r < q.2.1.length := by
      obtain ⟨N, hE, hN⟩ := hY.ord.up
      have := (hN r).1 (elim_root hE)
      omega
    have HUL := Lib.hid (show (upL ps).length = ps.length by unfold upL; rw [List.length_reverse]; exact hY.ord.bl)
    have HPI : ∀ x ∈ ps, x < (ps.length : Int) := fun x hx => by
      have htb : treeB ps = true := by unfold jtB at hjt; rw [Bool.and_eq_true, Bool.and_eq_true] at hjt; exact hjt.1.2
      have := (treeB_in htb x hx).2
      omega
    have HOKD := Lib.hid (show OkDs D1 by rw [hD1]; exact full_ok hnn HPI hY.ord.ui)
    have HLD1 := Lib.hid (show D1.length = q.2.1.length by rw [hD1]; exact fullD_len _ _ _)
    have HPN := Lib.hid hnn
    have hi64 : I64 q.1 := HB.out.1
    clear hq12 hD1 hjt hY hnn HPI
    go_upto_region 4 with (go_at_call 12; refine (FullReduction_any HD.out (h1.toExt xW) HB.out (VD.toExt HV.out xW) hp (h3.toExt xW)).mono ?_; rw [HO.out]; rintro e w1 ⟨v1, F1, rfl, hx1, hS1, hN1, hF1⟩; rw [Option.isSome_some]; rw [Option.getD_some] at hS1)
    obtain ⟨n, hn⟩ : ∃ n, q.2.1.length = n := ⟨_, rfl⟩
    rw [hn] at hn4 hn1 hrn
    have HPN := Lib.hid (show ps.length = n by rw [HPN.out, hn])
    have HLD1 := Lib.hid (show D1.length = n by rw [HLD1.out, hn])
    obtain ⟨bt, ot, rfl⟩ := h3.pl (by rw [HPN.out]; omega)
    have HPT := Lib.hid h3
    obtain ⟨ga, c8, hv8, hgF, _, _⟩ := hS1.block (by intro h; have h2 := HLD1.out; rw [h] at h2; simp at h2; omega)
    rw [HLD1.out] at hv8
    subst hv8
    have HS1 := Lib.hid hS1
    have HN1 := Lib.hid hN1
    have HF1 := Lib.hid hF1
    have hxw1 := trans_ext xW hx1
    have hzw := size_of_ext xW
    have hzw1 := size_of_ext hx1
    have hgaW := hF1 ga hgF
    have hga1 := hS1.lt ga hgF
    obtain ⟨lt1, r01, ft1⟩ := bx1 (TW.toExt hx1)
    clear hn h3 hS1 hN1 hF1 hgF lp p0 fp lq q0 q1 q2 fq lt r0 ft
    go_wp2_with fail
    refine (upwards_any (by rw [HPN.out]; exact hn4) HORD.out (HPT.out.toExt hxw1)).mono ?_
    rintro e w9 ⟨vo, Fo, rfl, hx9, hSo, hFo⟩
    obtain ⟨o, ho⟩ : ∃ o, upL ps = o := ⟨_, rfl⟩
    rw [ho] at hSo HUI HUL HEV HJN
    have HLO := Lib.hid (show o.length = n by rw [HUL.out, HPN.out])
    obtain ⟨go, co, hvo, hgoF, _, _⟩ := hSo.block (by intro h; have h2 := HLO.out; rw [h] at h2; simp at h2; omega)
    rw [HLO.out] at hvo
    subst hvo
    have HSO := Lib.hid hSo
    have HFO := Lib.hid (show ∀ b ∈ Fo, b ≠ ga from fun b hb e => by have := hFo b hb; omega)
    have HSA := Lib.hid (HS1.out.toExt hx9)
    have HX9 := Lib.hid (trans_ext hx1 hx9)
    have hgo9 := hSo.lt go hgoF
    have hgow := hFo go hgoF
    have hz9 := size_of_ext hx9
    clear hSo hFo hgoF ho lt1 r01 ft1 HS1 hx9
    go_wp2_with fail
    go_loopw [29] (fun i wr => ∃ (k : Nat) (ds : List VRd) (F : List Nat), i = .int .i64 k ∧ k ≤ n ∧ Hid (SV 69 3 sVR wr (.slice (some ⟨ga, 0, none⟩) n c8) ds F) ∧ Hid (joinG (jprs ps (o.take k)) D1 = some ds) ∧ Hid F.Nodup ∧ Hid (∀ b ∈ F, W.heap.size ≤ b) ∧ Hid (Chg [ga] w9 wr)) (fun i _ => n - (intOf i).toNat)
    case atStart => exact ⟨0, D1, F1, rfl, by omega, HSA, Lib.hid rfl, HN1, HF1, Lib.hid (Chg.refl _ _)⟩
    case round => as_aux_lemma =>
      obtain ⟨k, ds, F, rfl, hk, HS, HG, HN, HF, HC⟩ := hrel
      have hyr : ∃ y, wr = ext W y := HC.out.isExt HX9.out (by simp; exact hgaW)
      have hzr := HC.out.size
      have hzW := size_of_ext hyr
      obtain ⟨lt, r0, ft⟩ := bx1 (TW.toExt hyr)
      have HSOr := Lib.hid (HSO.out.chg HC.out (fun b hb h => HFO.out b hb (List.mem_singleton.1 h)))
      by_cases hlt : k < n
      · have cok := cells_of HSOr.out (k := k) (by rw [HLO.out]; omega)
        obtain ⟨hi0, hi1⟩ := HUI.out (o.getD k 0) (mem_getD (by rw [HLO.out]; omega))
        rw [HPN.out] at hi1
        obtain ⟨i, hi⟩ : ∃ i : Nat, o.getD k 0 = (i : Int) := ⟨(o.getD k 0).toNat, by omega⟩
        rw [hi] at cok hi0 hi1
        have hil : i < n := by omega
        have hoi : o[k]'(by rw [HLO.out]; omega) = (i : Int) := by rw [← hi, getDl _ _ (show k < o.length by rw [HLO.out]; omega)]
        have hgor : go < wr.heap.size := by omega
        have HPTr := Lib.hid (HPT.out.toExt (trans_ext xW hyr))
        have HDL := Lib.hid (show ds.length = n by have h := joinG_len HG.out; rw [HLD1.out] at h; exact h)
        have HOI := Lib.hid hoi
        clear hi hi0 hoi
        go_upto_region 7 with fail
        go_wp2_with fail
        refine (JoinTreeChildren_any (n := (i : Int)) (by rw [HPN.out]; omega) HPTr.out).mono ?_
        rintro e wk ⟨vk, Fk, rfl, hxk, hSk, hFk⟩
        obtain ⟨Ak, ak, rfl, _, _⟩ := hSk.form
        have HKI := Lib.hid (show ∀ c ∈ chl 0 (i : Int) ps, 0 ≤ c ∧ c < (n : Int) from fun c hc => by have := chl_in c hc; rw [HPN.out] at this; omega)
        have HJZ := Lib.hid (jpre_zero ps o k (i : Int))
        have HJD := Lib.hid (fun m h => jpre_done (ps := ps) (o := o) (k := k) (m := m) (i := (i : Int)) (by rw [HLO.out]; exact hlt) HOI.out h)
        have HJR := Lib.hid (fun m => jpre_rest (ps := ps) (o := o) (k := k) (m := m) (i := (i : Int)) (by rw [HLO.out]; exact hlt) HOI.out)
        have hkl := chl_length (i : Int) 0 ps
        have HJS := Lib.hid (fun m h => jpre_step (ps := ps) (o := o) (k := k) (m := m) (i := (i : Int)) h)
        obtain ⟨kids, hkids⟩ : ∃ l, chl 0 (i : Int) ps = l := ⟨_, rfl⟩
        rw [hkids] at hSk HKI HJD HJS hkl ⊢
        have HSk := Lib.hid hSk
        have HFk := Lib.hid (show ∀ b ∈ Fk, b ≠ ga from fun b hb e => by have := hFk b hb; omega)
        have HSK := Lib.hid (HS.out.toExt hxk)
        have HCK := Lib.hid (HC.out.trans0 hxk)
        have HGK := Lib.hid (show joinG (jpre ps o k 0 (i : Int)) D1 = some ds by rw [HJZ.out]; exact HG.out)
        have hzk := size_of_ext hxk
        have hyk := trans_ext hyr hxk
        have hRk := RW.toExt hyk
        clear hSk hFk hkids HS HC HG lt r0 ft cok HSOr HPTr hgor hzr hzW hyr hxk
        go_wp2_with fail
        go_loopw [37] (fun i2 wr => ∃ (m : Nat) (ds : List VRd) (F : List Nat), i2 = .int .i64 m ∧ m ≤ kids.length ∧ Hid (SV 69 3 sVR wr (.slice (some ⟨ga, 0, none⟩) n c8) ds F) ∧ Hid (joinG (jpre ps o k m (i : Int)) D1 = some ds) ∧ Hid F.Nodup ∧ Hid (∀ b ∈ F, W.heap.size ≤ b) ∧ Hid (Chg [ga] wk wr)) (fun i2 _ => kids.length - (intOf i2).toNat)
        case atStart => exact ⟨0, ds, F, rfl, by omega, HSK, HGK, HN, HF, Lib.hid (Chg.refl _ _)⟩
        case round => as_aux_lemma =>
          obtain ⟨m, ds, F, rfl, hm, HS, HG, HN, HF, HC⟩ := hrel
          have hyr : ∃ y, wr = ext W y := HC.out.isExt hyk (by simp; exact hgaW)
          have hzr := HC.out.size
          have hzW := size_of_ext hyr
          by_cases hml : m < kids.length
          · obtain ⟨gk, ck, eA, hgkF, _, _⟩ := HSk.out.block (by intro h; rw [h] at hml; simp at hml)
            injection eA with eA _ eC
            subst eA eC
            have hSkr := HSk.out.chg HC.out (fun b hb h => HFk.out b hb (List.mem_singleton.1 h))
            have ckm := cells_of hSkr hml
            have hgkr := hSkr.lt gk hgkF
            have HDL := Lib.hid (show ds.length = n by have h := joinG_len HG.out; rw [HLD1.out] at h; exact h)
            have HOK := Lib.hid (joinG_ok HOKD.out HG.out)
            obtain ⟨hc0, hc1⟩ := HKI.out (kids.getD m 0) (mem_getD hml)
            have hst := HJS.out m hml
            rw [← getDl _ 0 hml] at hst
            obtain ⟨cn, hcn⟩ : ∃ cn : Nat, kids.getD m 0 = (cn : Int) := ⟨(kids.getD m 0).toNat, by omega⟩
            rw [hcn] at ckm hst hc0 hc1
            rw [Int.toNat_natCast, Int.toNat_natCast] at hst
            have hcl : cn < n := by omega
            obtain ⟨oj, hoj⟩ : ∃ x, joinR (ds.getD i zV) (ds.getD cn zV) = x := ⟨_, rfl⟩
            have HSN := Lib.hid (fun (h : oj = none) => show joinG (jprs ps o) D1 = none from by
              obtain ⟨rr, hrr⟩ := HJR.out (m + 1)
              exact natJ_none (c := cn) (p := i) HG.out (by rw [hoj, h]) (r := rr) (by rw [hrr, hst]))
            have HSS := Lib.hid (fun x (h : oj = some x) => show joinG (jpre ps o k (m + 1) (i : Int)) D1 = some (ds.set i x) from by
              rw [hst]
              exact natJ_some HG.out (by rw [hoj, h]))
            obtain ⟨Ai, ai, Bi, bi, ci0, ci1, ci2, hvi⟩ := vr_at HS.out HN.out (k := i) (by rw [HDL.out]; omega)
            obtain ⟨Ac, ac, Bc, bc, cc0, cc1, cc2, hvc⟩ := vr_at HS.out HN.out (k := cn) (by rw [HDL.out]; omega)
            have hbi := vrok_bd (HOK.out.get (k := i) (by rw [HDL.out]; omega))
            have hbc := vrok_bd (HOK.out.get (k := cn) (by rw [HDL.out]; omega))
            rw [← getDl _ zV (show i < ds.length by rw [HDL.out]; omega)] at hbi
            rw [← getDl _ zV (show cn < ds.length by rw [HDL.out]; omega)] at hbc
            have hgar := (vr_cell HS.out HDL.out (k := i) (by omega)).2.2.2
            obtain ⟨di, hdi⟩ : ∃ x, ds.getD i zV = x := ⟨_, rfl⟩
            obtain ⟨dc, hdc⟩ : ∃ x, ds.getD cn zV = x := ⟨_, rfl⟩
            rw [hdi] at ci0 ci1 ci2 hvi hbi hoj
            rw [hdc] at cc0 cc1 cc2 hvc hbc hoj
            have HOJ := Lib.hid hoj
            have HVI := Lib.hid hvi
            have HVC := Lib.hid hvc
            have HBI := Lib.hid hbi
            have HBC := Lib.hid hbc
            clear hoj hvi hvc hbi hbc hdi hdc hst hcn hSkr hgkF hc0 hc1
            go_upto_region 10 with fail
            go_cut [14, 15] (fun va vb wx => CutJ oj wr va vb wx)
            case first =>
              go_region_held3 (fun w' => (∀ a : Addr, a.block < wr.heap.size → w'.cell? a = wr.cell? a) ∧ ∃ y, w' = ext wr y) (first | exact heldE (by refine x'z ?_; repeat (with_reducible (first | exact x'a _ _ | exact x'b _ | exact x'c (by assumption) | refine x'd ?_ (by assumption) | refine x'e ?_ _ | refine x'f ?_ _ | refine x'g ?_ | refine x'h ?_ ?_ _ | refine x'i ?_ _ | refine x'j ?_ | refine x'k ?_ _ | refine x'l ?_ _ _ | refine x'm ?_ | assumption | (refine x'n ?_; omega) | omega)))) ((go_at_call 56; refine (NaturalJoin_any HBI.out (VD.toExt HVI.out (by refine x'z ?_; repeat (with_reducible (first | exact x'a _ _ | exact x'b _ | exact x'c (by assumption) | refine x'd ?_ (by assumption) | refine x'e ?_ _ | refine x'f ?_ _ | refine x'g ?_ | refine x'h ?_ ?_ _ | refine x'i ?_ _ | refine x'j ?_ | refine x'k ?_ _ | refine x'l ?_ _ _ | refine x'm ?_ | assumption | (refine x'n ?_; omega) | omega)))) HBC.out (VD.toExt HVC.out (by refine x'z ?_; repeat (with_reducible (first | exact x'a _ _ | exact x'b _ | exact x'c (by assumption) | refine x'd ?_ (by assumption) | refine x'e ?_ _ | refine x'f ?_ _ | refine x'g ?_ | refine x'h ?_ ?_ _ | refine x'i ?_ _ | refine x'j ?_ | refine x'k ?_ _ | refine x'l ?_ _ _ | refine x'm ?_ | assumption | (refine x'n ?_; omega) | omega))))).mono ?_; rw [HOJ.out]; rintro e w5 ⟨u0, u1, u2, F5, rfl, hx5, hS5, hN5, hF5⟩; obtain ⟨A5, a5, B5, b5, rfl, rfl, rfl⟩ := sVR_form hS5; have hz5 : wr.heap.size ≤ w5.heap.size := size_of_ext (by refine x'z ?_; repeat (with_reducible (first | exact x'a _ _ | exact x'b _ | exact x'c (by assumption) | refine x'd ?_ (by assumption) | refine x'e ?_ _ | refine x'f ?_ _ | refine x'g ?_ | refine x'h ?_ ?_ _ | refine x'i ?_ _ | refine x'j ?_ | refine x'k ?_ _ | refine x'l ?_ _ _ | refine x'm ?_ | assumption | (refine x'n ?_; omega) | omega))); (first | (have L5 : BoxAt w5 wr.heap.size #[.slice none 0 0, .int .i64 0, .slice none 0 0] := BoxAt.toExt (BoxAt.new wr _ _) hx5; obtain ⟨z1, z2, z3, z4, z5⟩ := box3 L5) | (have L5 : BoxAt w5 wr.heap.size #[.slice none 0 0, .int .i64 0, .slice none 0 0] := BoxAt.toExt (BoxAt.new wr.drew _ _) hx5; obtain ⟨z1, z2, z3, z4, z5⟩ := box3 L5) | (have L5 : BoxAt w5 wr.heap.size #[.slice none 0 0, .int .i64 0, .slice none 0 0] := BoxAt.toExt (BoxAt.new wr _ _).drew hx5; obtain ⟨z1, z2, z3, z4, z5⟩ := box3 L5) | skip)))
              all_goals
                go_wp2_with fail
                go_meet
                have hdr : wr.drew.heap.size = wr.heap.size := rfl
                have hG5 : ∀ x ∈ F5, wr.heap.size ≤ x := fun x hx => Nat.le_trans (size_of_ext (by refine x'z ?_; repeat (with_reducible (first | exact x'a _ _ | exact x'b _ | exact x'c (by assumption) | refine x'd ?_ (by assumption) | refine x'e ?_ _ | refine x'f ?_ _ | refine x'g ?_ | refine x'h ?_ ?_ _ | refine x'i ?_ _ | refine x'j ?_ | refine x'k ?_ _ | refine x'l ?_ _ _ | refine x'm ?_ | assumption | (refine x'n ?_; omega) | omega)))) (hF5 x hx)
                show CutJ oj wr _ _ _
                first
                  | exact ⟨w5.heap.size, A5, a5, B5, b5, F5, rfl, rfl, BoxAt.new _ _ _, OD.toExt hS5 (alloc_ext _ _), hN5, hG5, (by refine x'z ?_; repeat (with_reducible (first | exact x'a _ _ | exact x'b _ | exact x'c (by assumption) | refine x'd ?_ (by assumption) | refine x'e ?_ _ | refine x'f ?_ _ | refine x'g ?_ | refine x'h ?_ ?_ _ | refine x'i ?_ _ | refine x'j ?_ | refine x'k ?_ _ | refine x'l ?_ _ _ | refine x'm ?_ | assumption | (refine x'n ?_; omega) | omega)))⟩
                  | exact ⟨wr.heap.size, A5, a5, B5, b5, F5, rfl, rfl, (by repeat (with_reducible (first | assumption | exact BoxAt.new _ _ _ | apply BoxAt.set3 | refine BoxAt.set3' ?_ (by omega) | apply BoxAt.set30 | apply BoxAt.set31 | apply BoxAt.set32 | apply BoxAt.set2 | refine BoxAt.set2' ?_ (by omega) | apply BoxAt.setP0 | apply BoxAt.setP1 | refine BoxAt.setO ?_ (by omega) | refine BoxAt.alloc ?_ _ | refine BoxAt.drew ?_ | refine BoxAt.toExt ?_ (by assumption)))), OD.chg (G := [wr.heap.size]) hS5 (by repeat (with_reducible (first | exact Chg.refl _ _ | refine Chg.trans0 ?_ (by assumption) | refine Chg.extS ?_ _ | refine Chg.alloc ?_ _ | refine Chg.drew ?_ | refine Chg.setCell ?_ (.inl (by simp)) _))) (fun x hx hm => by have := hF5 x hx; rw [List.mem_singleton.1 hm] at this; first | omega | (simp only [World.drew, World.size_alloc] at this; omega) | (rw [World.size_alloc] at this; omega)), hN5, hG5, (by refine x'z ?_; repeat (with_reducible (first | exact x'a _ _ | exact x'b _ | exact x'c (by assumption) | refine x'd ?_ (by assumption) | refine x'e ?_ _ | refine x'f ?_ _ | refine x'g ?_ | refine x'h ?_ ?_ _ | refine x'i ?_ _ | refine x'j ?_ | refine x'k ?_ _ | refine x'l ?_ _ _ | refine x'm ?_ | assumption | (refine x'n ?_; omega) | omega)))⟩
            obtain ⟨b14, A14, a14, B14, b2, F14, rfl, rfl, hB14, hS14, hN14, hF14, hx14⟩ := hcut
            obtain ⟨w14, rfl⟩ : ∃ W, W = wc := ⟨_, rfl⟩
            have hyr14 := trans_ext hyr hx14
            cases oj with
            | none =>
              have HZN := Lib.hid (show evT d q ps = none by rw [← HEV.out, HSN.out rfl])
              obtain ⟨lr1, r10, r11, fr1⟩ := bx2 (RW.toExt hyr14)
              clear hS14 hB14
              go_wp2_with fail
              refine bodyPost_ret (v := .tuple #[.agg #[.int .i64 0, .slice none 0 0], .bool false]) (by simp [results, Tryz.results23, go_sem, *]) rfl (relOut_none HZN.out rfl (by refine x'z ?_; repeat (with_reducible (first | exact x'a _ _ | exact x'b _ | exact x'c (by assumption) | refine x'd ?_ (by assumption) | refine x'e ?_ _ | refine x'f ?_ _ | refine x'g ?_ | refine x'h ?_ ?_ _ | refine x'i ?_ _ | refine x'j ?_ | refine x'k ?_ _ | refine x'l ?_ _ _ | refine x'm ?_ | assumption | (refine x'n ?_; omega) | omega))))
            | some x =>
              simp only [Option.getD_some, Option.isSome_some] at hB14 hS14 ⊢
              obtain ⟨l14, c140, c141, c142, f14⟩ := box3 hB14
              obtain ⟨⟨⟨y0, hu0⟩, hf0⟩, ⟨⟨y1, hu1⟩, hf1⟩, ⟨⟨y2, hu2⟩, hf2⟩, hg14⟩ := vr_cell (HS.out.toExt hx14) HDL.out (k := i) (by omega)
              obtain ⟨F9, hS9, hC9, hN9, hF9⟩ := semi_put (W := W) (p := i) HS.out HDL.out HN.out (by omega) hx14 hS14 hN14 hF14 HF.out hzW
              have HS9 := Lib.hid hS9
              have HG9 := Lib.hid (HSS.out x rfl)
              have HN9 := Lib.hid hN9
              have HF9 := Lib.hid hF9
              have HC9 := Lib.hid (HC.out.trans hC9 (fun x hx => .inl hx))
              clear hS9 hN9 hF9 hC9 hS14 hB14 HS
              go_wp2_with fail
              exact ⟨⟨m + 1, ds.set i x, F9, by go_num, by omega, HS9, HG9, HN9, HF9, HC9⟩, by simp [intOf]; omega⟩
          · have HGD := Lib.hid (show joinG (jprs ps (o.take (k + 1))) D1 = some ds by rw [← HJD.out m (by omega)]; exact HG.out)
            have HCD := Lib.hid (HCK.out.trans HC.out (fun x hx => .inl hx))
            go_wp2_with fail
            exact ⟨⟨k + 1, ds, F, by go_num, by omega, HS, HGD, HN, HF, HCD⟩, by simp [intOf]; omega⟩
      · have e0 : k = n := by omega
        have hg := HG.out
        rw [e0, List.take_of_length_le (show o.length ≤ n by rw [HLO.out]; omega)] at hg
        obtain ⟨hj1, hj2, hj3, hj4⟩ := HJN.out ds hg
        have hev := HEV.out
        rw [hg] at hev
        have hev : projR (ds.getD r zV).2 q.2.2 = evT d q ps := hev
        have HDL := Lib.hid (show ds.length = n by have h := joinG_len HG.out; rw [HLD1.out] at h; exact h)
        obtain ⟨Ar, ar, Br, br, cr0, cr1, cr2, hvr⟩ := vr_at HS.out HN.out (k := r) (by rw [HDL.out]; omega)
        have hgar := (vr_cell HS.out HDL.out (k := r) (by omega)).2.2.2
        obtain ⟨dr, hdr⟩ : ∃ x, ds.getD r zV = x := ⟨_, rfl⟩
        rw [hdr] at cr0 cr1 cr2 hvr hj2 hj3 hj4 hev
        have HRV := Lib.hid (vII_get (vRel_get (vVR_get hvr).2.1).2).2
        obtain ⟨pr, hpr⟩ : ∃ p, projR dr.2 q.2.2 = p := ⟨_, rfl⟩
        have HPR := Lib.hid (show projR (dr.2.1, dr.2.2) q.2.2 = pr from hpr)
        have HZ := Lib.hid (show evT d q ps = pr by rw [← hev, hpr])
        have hir : I64 dr.2.1 := by rw [hj2]; exact hi64
        have hrl : dr.2.2.length ≤ 1000000000 := by omega
        have HRX := Lib.hid (fun (x : List Int) (hx : x ∈ dr.2.2) => show x.length ≤ 1000000000 by have := hj4 x hx; omega)
        have HGO := Lib.hid (hgo.toExt (trans_ext xW hyr))
        have hwr := trans_ext xW hyr
        obtain ⟨lq, q0, q1, q2, fq⟩ := box3 (QW.toExt hyr)
        obtain ⟨lr, rr0, rr1, fr⟩ := bx2 (RW.toExt hyr)
        have hnk : ¬ ((k : Int) < (n : Int)) := by omega
        clear e0 hg hj1 hj2 hj3 hj4 hev hdr hvr hpr HS HG HEV HJN
        go_upto_region 16 with fail
        go_region_law ((rw [if_pos (by simp [Region.wanted])]; go_wp2_with (first
          | (go_at_call 58; refine (JoinTreeRoot_any (by rw [HPN.out]; omega) (HPT.out.toExt (trans_ext hwr (by repeat (with_reducible (first | exact refl_ext _ | exact alloc_ext _ _ | exact drew_ext _ | assumption | refine trans_ext ?_ (drew_ext _) | refine trans_ext ?_ (alloc_ext _ _) | refine trans_ext ?_ (by assumption))))))).mono ?_; rintro e w5 ⟨rfl, hx5⟩; rw [HRT.out]; have hxr5 : ∃ y, w5 = ext wr y := trans_ext (by repeat (with_reducible (first | exact refl_ext _ | exact alloc_ext _ _ | exact drew_ext _ | assumption | refine trans_ext ?_ (drew_ext _) | refine trans_ext ?_ (alloc_ext _ _) | refine trans_ext ?_ (by assumption)))) hx5; have cr05 := cell_x cr0 hgar hxr5; have cr15 := cell_x cr1 hgar hxr5; have cr25 := cell_x cr2 hgar hxr5; have hgar5 := lt_x hgar hxr5; obtain ⟨lq5, q05, q15, q25, fq5⟩ := box3 (QW.toExt (trans_ext hyr hxr5)); obtain ⟨lr5, rr05, rr15, fr5⟩ := bx2 (RW.toExt (trans_ext hyr hxr5)))
          | (go_at_call 57; refine (Project_any hir hrl HRX.out (HRV.out.toExt (trans_ext hxr5 (by repeat (with_reducible (first | exact refl_ext _ | exact alloc_ext _ _ | exact drew_ext _ | assumption | refine trans_ext ?_ (drew_ext _) | refine trans_ext ?_ (alloc_ext _ _) | refine trans_ext ?_ (by assumption)))))) hgl (HGO.out.toExt (trans_ext hxr5 (by repeat (with_reducible (first | exact refl_ext _ | exact alloc_ext _ _ | exact drew_ext _ | assumption | refine trans_ext ?_ (drew_ext _) | refine trans_ext ?_ (alloc_ext _ _) | refine trans_ext ?_ (by assumption))))))).mono ?_; rw [HPR.out]; rintro e w6 ⟨u0, u1, F6, rfl, hx6, hS6, hN6, hF6⟩; obtain ⟨A6, c6, rfl, rfl, hI6⟩ := sRel_form hS6; have hxr6 : ∃ y, w6 = ext wr y := trans_ext hxr5 (trans_ext (by repeat (with_reducible (first | exact refl_ext _ | exact alloc_ext _ _ | exact drew_ext _ | assumption | refine trans_ext ?_ (drew_ext _) | refine trans_ext ?_ (alloc_ext _ _) | refine trans_ext ?_ (by assumption)))) hx6); obtain ⟨lr6, rr06, rr16, fr6⟩ := bx2 (RW.toExt (trans_ext hyr hxr6))))))
        all_goals
          have hz6 := size_of_ext (trans_ext hwr hxr6)
          have hF69 : ∀ b ∈ F6, wr.heap.size ≤ b := fun b hb => Nat.le_trans (size_of_ext (trans_ext hxr5 (by repeat (with_reducible (first | exact refl_ext _ | exact alloc_ext _ _ | exact drew_ext _ | assumption | refine trans_ext ?_ (drew_ext _) | refine trans_ext ?_ (alloc_ext _ _) | refine trans_ext ?_ (by assumption)))))) (hF6 b hb)
          go_wp2_with fail
          refine bodyPost_ret (v := .tuple #[.agg #[.int .i64 (pr.getD (0, [])).1, .slice A6 (pr.getD (0, [])).2.length c6], .bool pr.isSome]) (by simp [results, Tryz.results23, go_sem, *]) rfl ⟨_, _, F6, by rw [HZ.out], (by refine x'z ?_; repeat (with_reducible (first | exact x'a _ _ | exact x'b _ | exact x'c (by assumption) | refine x'd ?_ (by assumption) | refine x'e ?_ _ | refine x'f ?_ _ | refine x'g ?_ | refine x'h ?_ ?_ _ | refine x'i ?_ _ | refine x'j ?_ | refine x'k ?_ _ | refine x'l ?_ _ _ | refine x'm ?_ | assumption | (refine x'n ?_; omega) | omega))), ?_, hN6, fun b hb => ?_⟩
          · rw [HZ.out]
            refine sRel_mk (z := (pr.getD (0, [])).1) (rows := (pr.getD (0, [])).2) ?_
            refine OD.chg (E := sII) (G := [w.heap.size + 1 + 1 + 1]) hI6 (by repeat (with_reducible (first | exact Chg.refl _ _ | refine Chg.trans0 ?_ (by assumption) | refine Chg.extS ?_ _ | refine Chg.alloc ?_ _ | refine Chg.drew ?_ | refine Chg.setCell ?_ (.inl (by simp)) _))) ?_
            intro b hb h
            have := hF69 b hb
            rw [List.mem_singleton.1 h] at this
            omega
          · have := hF69 b hb
            omega
end Go.Proofs.YtfigcfajkilhiaaGreat
