/- Contracts of functions that the statement reaches. -/
import Derived.Test.YtfigcfajkilhiaaGreatE31
import Derived.Test.YtfigcfajkilhiaaGreatE33
import Derived.Test.YtfigcfajkilhiaaGreatE03
namespace Go.Proofs.YtfigcfajkilhiaaGreat
open Go.RowKit
theorem join_fst {d d' x : VRd} (h : joinR d d' = some x) : x.1 = uniL d.1 d'.1 := by
  unfold joinR at h
  split at h
  · injection h with h; subst h; rfl
  · cases h
theorem joinL_bd {un va vb : List Int} {rb : List (List Int)} (h : rb.length ≤ 4000) : ∀ (ra : List (List Int)), (joinL un va ra vb rb).length ≤ 4000 * ra.length
  | [] => by simp [joinL]
  | r :: ra => by
    have ih := joinL_bd (un := un) (va := va) (vb := vb) h ra
    have h1 := jrow_len (un := un) (va := va) (r := r) (vb := vb) (rb := rb) (k := rb.length)
    rw [List.take_length] at h1
    have e : joinL un va (r :: ra) vb rb = jrow un va r vb rb ++ joinL un va ra vb rb := by
      unfold joinL jrow
      rw [List.flatMap_cons]
    rw [e, List.length_append, List.length_cons]
    omega
theorem joinL_bdk {un va vb : List Int} {ra rb : List (List Int)} (h : rb.length ≤ 4000) (ha : ra.length ≤ 4000) (k : Nat) : (joinL un va (ra.take k) vb rb).length ≤ 16000000 := by
  have := joinL_bd (un := un) (va := va) (vb := vb) h (ra.take k)
  rw [List.length_take] at this
  omega
theorem joinL_el {un va vb : List Int} {ra rb : List (List Int)} : ∀ x ∈ joinL un va ra vb rb, x.length = un.length := fun x hx => by
  unfold joinL at hx
  simp only [List.mem_flatMap, List.mem_map] at hx
  obtain ⟨_, _, _, _, rfl⟩ := hx
  simp [glueR]
set_option maxRecDepth 100000 in
set_option maxHeartbeats 16000000 in
theorem specNaturalJoin_any {A B A' B' : Option Addr} {a b a' b' : Nat} {d d' : VRd} {w : World} (hb : BVR d) (h : vVR w [.slice A d.1.length a, .int .i64 d.2.1, .slice B d.2.2.length b] d) (hb' : BVR d') (h' : vVR w [.slice A' d'.1.length a', .int .i64 d'.2.1, .slice B' d'.2.2.length b'] d') :
    Calls Tryz.prog 53 #[.agg #[.slice A d.1.length a, .int .i64 d.2.1, .slice B d.2.2.length b], .agg #[.slice A' d'.1.length a', .int .i64 d'.2.1, .slice B' d'.2.2.length b']] w (VROut (joinR d d') w) := by
  obtain ⟨r1, r2, _⟩ := vVR_get h
  obtain ⟨s1, s2, _⟩ := vVR_get h'
  have r3 := (vII_get (vRel_get r2).2).2
  have s3 := (vII_get (vRel_get s2).2).2
  have HVa := Lib.hid h
  have HVb := Lib.hid h'
  have Hba := Lib.hid hb
  have Hbb := Lib.hid hb'
  obtain ⟨t1, ht1⟩ : ∃ t, vrB d = t := ⟨_, rfl⟩
  obtain ⟨t2, ht2⟩ : ∃ t, vrB d' = t := ⟨_, rfl⟩
  have HT1 := Lib.hid ht1
  have HT2 := Lib.hid ht2
  clear h h' hb hb' r2 s2 ht1 ht2
  go_enter Tryz.func53, Tryz.ntmps53
  go_upto_region 1 with fail
  refine wp_name ?_
  intro W hW
  have xW : ∃ y, W = ext w y := by rw [hW.out]; exact (by refine x'z ?_; repeat (with_reducible (first | exact x'a _ _ | exact x'b _ | exact x'c (by assumption) | refine x'd ?_ (by assumption) | refine x'e ?_ _ | refine x'f ?_ _ | refine x'g ?_ | refine x'h ?_ ?_ _ | refine x'i ?_ _ | refine x'j ?_ | refine x'k ?_ _ | refine x'l ?_ _ _ | refine x'm ?_ | assumption | (refine x'n ?_; omega) | omega)))
  have BW0 : BoxAt W (w.heap.size) #[.slice A d.1.length a, .int .i64 d.2.1, .slice B d.2.2.length b] := by rw [hW.out]; refine ⟨?_, fun j => ?_, fun j => ?_⟩ <;> go_simp
  obtain ⟨lW0, bW0, fW0⟩ := BW0
  have cW0_0 : W.cell? ⟨w.heap.size, 0, none⟩ = some (.slice A d.1.length a) := bW0 0
  have cW0_1 : W.cell? ⟨w.heap.size, 1, none⟩ = some (.int .i64 d.2.1) := bW0 1
  have cW0_2 : W.cell? ⟨w.heap.size, 2, none⟩ = some (.slice B d.2.2.length b) := bW0 2
  have BW1 : BoxAt W (w.heap.size + 1) #[.slice A' d'.1.length a', .int .i64 d'.2.1, .slice B' d'.2.2.length b'] := by rw [hW.out]; refine ⟨?_, fun j => ?_, fun j => ?_⟩ <;> go_simp
  obtain ⟨lW1, bW1, fW1⟩ := BW1
  have cW1_0 : W.cell? ⟨w.heap.size + 1, 0, none⟩ = some (.slice A' d'.1.length a') := bW1 0
  have cW1_1 : W.cell? ⟨w.heap.size + 1, 1, none⟩ = some (.int .i64 d'.2.1) := bW1 1
  have cW1_2 : W.cell? ⟨w.heap.size + 1, 2, none⟩ = some (.slice B' d'.2.2.length b') := bW1 2
  have BW2 : BoxAt W (w.heap.size + 1 + 1) #[.slice none 0 0, .int .i64 0, .slice none 0 0] := by rw [hW.out]; refine ⟨?_, fun j => ?_, fun j => ?_⟩ <;> go_simp
  obtain ⟨lW2, bW2, fW2⟩ := BW2
  have cW2_0 : W.cell? ⟨w.heap.size + 1 + 1, 0, none⟩ = some (.slice none 0 0) := bW2 0
  have cW2_1 : W.cell? ⟨w.heap.size + 1 + 1, 1, none⟩ = some (.int .i64 0) := bW2 1
  have cW2_2 : W.cell? ⟨w.heap.size + 1 + 1, 2, none⟩ = some (.slice none 0 0) := bW2 2
  clear hW
  have PW : BoxAt W w.heap.size #[.slice A d.1.length a, .int .i64 d.2.1, .slice B d.2.2.length b] := ⟨lW0, bW0, fW0⟩
  have QW : BoxAt W (w.heap.size + 1) #[.slice A' d'.1.length a', .int .i64 d'.2.1, .slice B' d'.2.2.length b'] := ⟨lW1, bW1, fW1⟩
  have RW : BoxAt W (w.heap.size + 1 + 1) #[.slice none 0 0, .int .i64 0, .slice none 0 0] := ⟨lW2, bW2, fW2⟩
  cases t1 with
  | false =>
    have HZ := Lib.hid (show joinR d d' = none by unfold joinR; rw [HT1.out]; simp)
    go_wp2_with (go_at_call 70; refine (specIsValidVarRelation_any Hba.out (VD.toExt HVa.out xW)).mono ?_; rintro e w3 ⟨rfl, hx3⟩; rw [HT1.out]; obtain ⟨l3, a3, a3', a3'', f3⟩ := box3 (RW.toExt hx3))
    refine bodyPost_ret (v := .tuple #[.agg #[.slice none 0 0, .int .i64 0, .slice none 0 0], .bool false]) (by simp [results, Tryz.results53, go_sem, *]) rfl (vrOut_none HZ.out rfl (by refine x'z ?_; repeat (with_reducible (first | exact x'a _ _ | exact x'b _ | exact x'c (by assumption) | refine x'd ?_ (by assumption) | refine x'e ?_ _ | refine x'f ?_ _ | refine x'g ?_ | refine x'h ?_ ?_ _ | refine x'i ?_ _ | refine x'j ?_ | refine x'k ?_ _ | refine x'l ?_ _ _ | refine x'm ?_ | assumption | (refine x'n ?_; omega) | omega))))
  | true =>
    cases t2 with
    | false =>
      have HZ := Lib.hid (show joinR d d' = none by unfold joinR; rw [HT2.out]; simp)
      go_wp2_with (first
        | (go_at_call 70; with_reducible refine (specIsValidVarRelation_any Hba.out (VD.toExt HVa.out ?_)).mono ?_; (focus (exact xW)); rintro e w3 ⟨rfl, hx3⟩; rw [HT1.out]; obtain ⟨l3, a3, a3', a3'', f3⟩ := box3 (QW.toExt hx3))
        | (go_at_call 70; with_reducible refine (specIsValidVarRelation_any Hbb.out (VD.toExt HVb.out ?_)).mono ?_; (focus (exact (trans_ext xW hx3))); rintro e w4 ⟨rfl, hx4⟩; rw [HT2.out]; obtain ⟨l4, a4, a4', a4'', f4⟩ := box3 (RW.toExt (trans_ext hx3 hx4))))
      refine bodyPost_ret (v := .tuple #[.agg #[.slice none 0 0, .int .i64 0, .slice none 0 0], .bool false]) (by simp [results, Tryz.results53, go_sem, *]) rfl (vrOut_none HZ.out rfl (by refine x'z ?_; repeat (with_reducible (first | exact x'a _ _ | exact x'b _ | exact x'c (by assumption) | refine x'd ?_ (by assumption) | refine x'e ?_ _ | refine x'f ?_ _ | refine x'g ?_ | refine x'h ?_ ?_ _ | refine x'i ?_ _ | refine x'j ?_ | refine x'k ?_ _ | refine x'l ?_ _ _ | refine x'm ?_ | assumption | (refine x'n ?_; omega) | omega))))
    | true =>
      have HA := Lib.hid (vrB_iff.1 HT1.out)
      have HB := Lib.hid (vrB_iff.1 HT2.out)
      have hva5 : d.1.length ≤ 5 := HA.out.len
      have hvb5 : d'.1.length ≤ 5 := HB.out.len
      go_upto_region 3 with (first
        | (go_at_call 70; with_reducible refine (specIsValidVarRelation_any Hba.out (VD.toExt HVa.out ?_)).mono ?_; (focus (exact xW)); rintro e w3 ⟨rfl, hx3⟩; rw [HT1.out]; obtain ⟨l3, a3, a3', a3'', f3⟩ := box3 (QW.toExt hx3))
        | (go_at_call 70; with_reducible refine (specIsValidVarRelation_any Hbb.out (VD.toExt HVb.out ?_)).mono ?_; (focus (exact (trans_ext xW hx3))); rintro e w4 ⟨rfl, hx4⟩; rw [HT2.out]))
      have x4 := trans_ext hx3 hx4
      have xw4 := trans_ext xW x4
      have P4 := PW.toExt x4
      have Q4 := QW.toExt x4
      have R4 := RW.toExt x4
      obtain ⟨lp, p0, p1, p2, fp⟩ := box3 P4
      obtain ⟨lq, q0, q1, q2, fq⟩ := box3 Q4
      clear PW QW RW lW0 bW0 fW0 cW0_0 cW0_1 cW0_2 lW1 bW1 fW1 cW1_0 cW1_1 cW1_2 lW2 bW2 fW2 cW2_0 cW2_1 cW2_2 l3 a3 a3' a3'' f3 xW hx3 hx4
      go_wp2_with fail
      refine (l11Both_any (by omega) (r1.toExt xw4) (by omega) (s1.toExt xw4)).mono ?_
      rintro e w5 ⟨Ax, cx, Ay, cy, rfl, rx, ry, hx5⟩
      have hxl := botX_len (va := d.1) (vb := d'.1) (k := d.1.length)
      have hyl := botY_len (va := d.1) (vb := d'.1) (k := d.1.length)
      have HXin := Lib.hid (botX_in (va := d.1) (vb := d'.1) (k := d.1.length))
      have HYin := Lib.hid (botY_in (va := d.1) (vb := d'.1) (k := d.1.length))
      have HBA := Lib.hid (fun (r s : List Int) (hr : r.length = d.1.length) => both_agree (va := d.1) (vb := d'.1) (s := s) (asc_nodup HA.out.asc) hr)
      obtain ⟨xs, hxs⟩ : ∃ x, botX d.1 d'.1 d.1.length = x := ⟨_, rfl⟩
      obtain ⟨ys, hys⟩ : ∃ x, botY d.1 d'.1 d.1.length = x := ⟨_, rfl⟩
      rw [hxs] at rx hxl HXin HBA ⊢
      rw [hys] at ry hyl HYin HBA ⊢
      clear hxs hys
      have P5 := P4.toExt hx5
      have Q5 := Q4.toExt hx5
      have R5 := R4.toExt hx5
      have xw5 := trans_ext xw4 hx5
      have HAV := Lib.hid (allV_eq HA.out HB.out)
      obtain ⟨lp5, p50, p51, p52, fp5⟩ := box3 P5
      obtain ⟨lq5, q50, q51, q52, fq5⟩ := box3 Q5
      clear lp p0 p1 p2 fp lq q0 q1 q2 fq P4 Q4 R4
      go_wp2_with fail
      refine (l11Vars_any (by omega) (r1.toExt xw5) (by omega) (s1.toExt xw5)).mono ?_
      rw [HAV.out]
      rintro e W6 ⟨vu, Fu, rfl, hx6, hSu, hFu⟩
      obtain ⟨Au, cu, rfl, _, _, ru⟩ := hSu.view sI_v
      have HFu := Lib.hid hFu
      have HJN := Lib.hid (join_new (a := d) (b := d') ⟨HT1.out, HT2.out⟩)
      have HJF := Lib.hid (fun x (h : joinR d d' = some x) => join_fst h)
      have hun := asc_len5 (asc_uniL (b := d'.1) HA.out.asc) (uni_bd HA.out HB.out)
      have Hun := Lib.hid (fun v (hv : v ∈ uniL d.1 d'.1) => mem_uniL.1 hv)
      have HLB := Lib.hid (joinL_bdk (un := uniL d.1 d'.1) (va := d.1) (vb := d'.1) HB.out.cnt HA.out.cnt)
      have HLE := Lib.hid (joinL_el (un := uniL d.1 d'.1) (va := d.1) (vb := d'.1) (ra := d.2.2) (rb := d'.2.2))
      obtain ⟨un, hune⟩ : ∃ u, uniL d.1 d'.1 = u := ⟨_, rfl⟩
      rw [hune] at hSu ru hun Hun HJN HJF HLB HLE ⊢
      have P6 := P5.toExt hx6
      have Q6 := Q5.toExt hx6
      have R6 := R5.toExt hx6
      have xw6 := trans_ext xw5 hx6
      have rx6 := rx.toExt hx6
      have ry6 := ry.toExt hx6
      have hra := HA.out.cnt
      have hrb := HB.out.cnt
      have HAl := Lib.hid HA.out.rl
      have HBl := Lib.hid HB.out.rl
      have hRs := R6.1
      have hw5s := R5.1
      have hxz : xs.length ≤ 1000000000 := by omega
      have hyz : ys.length ≤ 1000000000 := by omega
      have hvaz : d.1.length ≤ 1000000000 := by omega
      have hvbz : d'.1.length ≤ 1000000000 := by omega
      have hE0 : SV 26 1 sRow (W6.alloc (.cells #[] 26)) (.slice (some ⟨W6.heap.size, 0, none⟩) 0 0) [] [W6.heap.size] := SV.empty W6
      clear hune lp5 p50 p51 p52 fp5 lq5 q50 q51 q52 fq5 P5 Q5 R5 HT1 HT2 HVa HVb Hba Hbb HA HB hFu rx ry HAV
      go_wp2_with fail
      go_loopw [9, 10] (fun v i wr => ∃ (k : Nat) (F : List Nat), i = .int .i64 k ∧ k ≤ d.2.2.length ∧ SV 26 1 sRow wr v (joinL un d.1 (d.2.2.take k) d'.1 d'.2.2) F ∧ Hid F.Nodup ∧ Hid (∀ x ∈ F, W6.heap.size ≤ x) ∧ ∃ y, wr = ext W6 y) (fun _ i _ => d.2.2.length - (intOf i).toNat)
      case atStart => exact ⟨0, _, rfl, by omega, by simpa [joinL] using hE0, Lib.hid (by simp), Lib.hid (by simp), alloc_ext _ _⟩
      case round =>
        obtain ⟨k, F, rfl, hk, hS, HN, HF, hy⟩ := hrel
        have hw := trans_ext xw6 hy
        obtain ⟨lp7, p70, p71, p72, fp7⟩ := box3 (P6.toExt hy)
        by_cases hlt : k < d.2.2.length
        · obtain ⟨br, orr, A4, c4, rfl, hbr0, hcr0, hvr⟩ := r3.atV hlt
          have HCR := Lib.hid hcr0
          have lr := HAl.out _ (List.getElem_mem hlt)
          have Hst := Lib.hid (joinL_step (un := un) (va := d.1) (vb := d'.1) (rb := d'.2.2) hlt)
          have HLBk := HLB.out k
          have HBAr := Lib.hid (HBA.out d.2.2[k])
          obtain ⟨r, hr⟩ : ∃ r, d.2.2[k] = r := ⟨_, rfl⟩
          rw [hr] at HCR hcr0 hvr lr Hst HBAr
          obtain ⟨jl, hjle⟩ : ∃ l, joinL un d.1 (d.2.2.take k) d'.1 d'.2.2 = l := ⟨_, rfl⟩
          rw [hjle] at Hst hS HLBk
          have HLR := Lib.hid lr
          have HPI := Lib.hid (show ∀ v ∈ xs, 0 ≤ v ∧ v < (r.length : Int) by rw [lr]; exact HXin.out)
          clear hr hjle lr hcr0
          obtain ⟨lq7, q70, q71, q72, fq7⟩ := box3 (Q6.toExt hy)
          have HS := Lib.hid hS
          clear hS
          go_wp2_with fail
          go_loopw [9, 11] (fun v j wi => ∃ (k2 : Nat) (F2 : List Nat), j = .int .i64 k2 ∧ k2 ≤ d'.2.2.length ∧ SV 26 1 sRow wi v (jl ++ jrow un d.1 r d'.1 (d'.2.2.take k2)) F2 ∧ Hid F2.Nodup ∧ Hid (∀ x ∈ F2, W6.heap.size ≤ x) ∧ ∃ y, wi = ext W6 y) (fun _ j _ => d'.2.2.length - (intOf j).toNat)
          case atStart => exact ⟨0, F, rfl, by omega, by simpa [jrow] using HS.out, HN, HF, hy⟩
          case round =>
            obtain ⟨k2, F2, rfl, hk2, hS2, HN2, HF2, hyi⟩ := hrel
            have hwi := trans_ext xw6 hyi
            clear lp7 p70 p71 p72 fp7 lq7 q70 q71 q72 fq7
            obtain ⟨lp8, p80, p81, p82, fp8⟩ := box3 (P6.toExt hyi)
            obtain ⟨lq8, q80, q81, q82, fq8⟩ := box3 (Q6.toExt hyi)
            have hcr := cellW hwi hbr0 HCR.out
            have hbr := ltW hwi hbr0
            have hjl2 := jrow_len (un := un) (va := d.1) (r := r) (vb := d'.1) (rb := d'.2.2) (k := k2)
            by_cases hlt2 : k2 < d'.2.2.length
            · obtain ⟨bs, os, A5, c5, rfl, hbs0, hcs0, hvs⟩ := s3.atV hlt2
              have hcs := cellW hwi hbs0 hcs0
              have hbs := ltW hwi hbs0
              have HCS := Lib.hid hcs0
              have ls := HBl.out _ (List.getElem_mem hlt2)
              have HJS := Lib.hid (jrow_step (un := un) (va := d.1) (r := r) (vb := d'.1) hlt2)
              obtain ⟨s, hs⟩ : ∃ s, d'.2.2[k2] = s := ⟨_, rfl⟩
              rw [hs] at hcs hvs ls HJS HCS
              obtain ⟨jr, hjr⟩ : ∃ j, jrow un d.1 r d'.1 (d'.2.2.take k2) = j := ⟨_, rfl⟩
              rw [hjr] at HJS hS2 hjl2
              have HLS := Lib.hid ls
              have HPS := Lib.hid (show ∀ v ∈ ys, 0 ≤ v ∧ v < (s.length : Int) by rw [ls]; exact HYin.out)
              have hag := HBAr.out s HLR.out
              obtain ⟨px, hpx⟩ : ∃ p, pickL r xs = p := ⟨_, rfl⟩
              obtain ⟨py, hpy⟩ : ∃ p, pickL s ys = p := ⟨_, rfl⟩
              have hpxl : px.length ≤ 1000000000 := by rw [← hpx, pickL_length]; omega
              have hpyl : py.length ≤ 1000000000 := by rw [← hpy, pickL_length]; omega
              rw [hpx, hpy, ← cmpL_zero] at hag
              have HPX := Lib.hid hpx
              have HPY := Lib.hid hpy
              obtain ⟨C, hC⟩ : ∃ C, cmpL px py = C := ⟨_, rfl⟩
              rw [hC] at hag
              have HC := Lib.hid hC
              have hlk : (jl ++ jr).length + 1 ≤ 2000000000 := by rw [List.length_append]; omega
              have HFl2 := Lib.hid hS2.lt
              have HS2 := Lib.hid hS2
              clear hs hjr ls hcs0 hpx hpy hC hS2
              by_cases hC0 : C = 0
              · subst hC0
                have HST := Lib.hid (show jl ++ jrow un d.1 r d'.1 (d'.2.2.take (k2 + 1)) = jl ++ jr ++ [glueR un d.1 r d'.1 s] by rw [HJS.out, if_pos (hag.1 rfl), List.append_assoc])
                clear hag
                go_wp2_with fail
                go_region_held3 (fun w' => (∀ a : Addr, a.block < wr.heap.size → w'.cell? a = wr.cell? a) ∧ ∃ y, w' = ext wr y) (first | exact heldE (by refine x'z ?_; repeat (with_reducible (first | exact x'a _ _ | exact x'b _ | exact x'c (by assumption) | refine x'd ?_ (by assumption) | refine x'e ?_ _ | refine x'f ?_ _ | refine x'g ?_ | refine x'h ?_ ?_ _ | refine x'i ?_ _ | refine x'j ?_ | refine x'k ?_ _ | refine x'l ?_ _ _ | refine x'm ?_ | assumption | (refine x'n ?_; omega) | omega)))) (first
                  | (go_at_call 73; with_reducible refine (l5Cols_any (hvr.toExt ?_) hxz (rx6.toExt ?_) HPI.out).mono ?_; (focus (exact (trans_ext hwi (by refine x'z ?_; repeat (with_reducible (first | exact x'a _ _ | exact x'b _ | exact x'c (by assumption) | refine x'd ?_ (by assumption) | refine x'e ?_ _ | refine x'f ?_ _ | refine x'g ?_ | refine x'h ?_ ?_ _ | refine x'i ?_ _ | refine x'j ?_ | refine x'k ?_ _ | refine x'l ?_ _ _ | refine x'm ?_ | assumption | (refine x'n ?_; omega) | omega)))))); (focus (exact (trans_ext hyi (by refine x'z ?_; repeat (with_reducible (first | exact x'a _ _ | exact x'b _ | exact x'c (by assumption) | refine x'd ?_ (by assumption) | refine x'e ?_ _ | refine x'f ?_ _ | refine x'g ?_ | refine x'h ?_ ?_ _ | refine x'i ?_ _ | refine x'j ?_ | refine x'k ?_ _ | refine x'l ?_ _ _ | refine x'm ?_ | assumption | (refine x'n ?_; omega) | omega)))))); rw [HPX.out]; rintro e w10 ⟨v10, F10, rfl, hx10, hS10, hF10⟩; obtain ⟨A10, c10, rfl, _, _, rv10⟩ := hS10.view sI_v)
                  | (go_at_call 73; with_reducible refine (l5Cols_any (hvs.toExt ?_) hyz (ry6.toExt ?_) HPS.out).mono ?_; (focus (exact (trans_ext hwi (by refine x'z ?_; repeat (with_reducible (first | exact x'a _ _ | exact x'b _ | exact x'c (by assumption) | refine x'd ?_ (by assumption) | refine x'e ?_ _ | refine x'f ?_ _ | refine x'g ?_ | refine x'h ?_ ?_ _ | refine x'i ?_ _ | refine x'j ?_ | refine x'k ?_ _ | refine x'l ?_ _ _ | refine x'm ?_ | assumption | (refine x'n ?_; omega) | omega)))))); (focus (exact (trans_ext hyi (by refine x'z ?_; repeat (with_reducible (first | exact x'a _ _ | exact x'b _ | exact x'c (by assumption) | refine x'd ?_ (by assumption) | refine x'e ?_ _ | refine x'f ?_ _ | refine x'g ?_ | refine x'h ?_ ?_ _ | refine x'i ?_ _ | refine x'j ?_ | refine x'k ?_ _ | refine x'l ?_ _ _ | refine x'm ?_ | assumption | (refine x'n ?_; omega) | omega)))))); rw [HPY.out]; rintro e w11 ⟨v11, F11, rfl, hx11, hS11, hF11⟩; obtain ⟨A11, c11, rfl, _, _, rv11⟩ := hS11.view sI_v)
                  | (go_at_call 88; refine (specCompareRows_any hpxl (rv10.toExt hx11) hpyl rv11).mono ?_; rintro e w12 ⟨rfl, hx12⟩; rw [HC.out]))
                have hy12 : ∃ y, w12 = ext wr y := (by refine x'z ?_; repeat (with_reducible (first | exact x'a _ _ | exact x'b _ | exact x'c (by assumption) | refine x'd ?_ (by assumption) | refine x'e ?_ _ | refine x'f ?_ _ | refine x'g ?_ | refine x'h ?_ ?_ _ | refine x'i ?_ _ | refine x'j ?_ | refine x'k ?_ _ | refine x'l ?_ _ _ | refine x'm ?_ | assumption | (refine x'n ?_; omega) | omega)))
                have hyi12 := trans_ext hyi hy12
                have hw12 := trans_ext hwi hy12
                have hz12 := size_of_ext hy12
                have hE3 := SV.empty (α := Int) (te := 3) (size := 1) (E := sI) w12
                clear hS10 hF10 rv10 hS11 hF11 rv11 lp8 p80 p81 p82 fp8 lq8 q80 q81 q82 fq8 hcs hbs hcr hbr hx10 hx11 hx12
                go_wp2_with fail
                go_loopw [12, 13] (fun v j wq => ∃ (k3 : Nat) (F3 : List Nat), j = .int .i64 k3 ∧ k3 ≤ un.length ∧ SV 3 1 sI wq v (glueR (un.take k3) d.1 r d'.1 s) F3 ∧ Hid (∀ x ∈ F3, w12.heap.size ≤ x) ∧ ∃ y, wq = ext w12 y) (fun _ j _ => un.length - (intOf j).toNat)
                case atStart => exact ⟨0, _, rfl, by omega, by simpa [glueR] using hE3, Lib.hid (by simp), alloc_ext _ _⟩
                case round =>
                  obtain ⟨k3, F3, rfl, hk3, hS3, HF3, hy3⟩ := hrel
                  have hyi3 := trans_ext hyi12 hy3
                  have hw3 := trans_ext hw12 hy3
                  by_cases hlt3 : k3 < un.length
                  · obtain ⟨bu, ou, rfl, hbu0, hcu0⟩ := ru.atI hlt3
                    have hcu := cellW hyi3 hbu0 hcu0
                    have hbu := ltW hyi3 hbu0
                    have hmem := Hun.out _ (List.getElem_mem hlt3)
                    have Ht := Lib.hid (gl_step (va := d.1) (r := r) (vb := d'.1) (s := s) hlt3)
                    have hlk3 : (glueR (un.take k3) d.1 r d'.1 s).length + 1 ≤ 2000000000 := by simp [glueR]; omega
                    have HCU := Lib.hid hcu0
                    obtain ⟨v, hv⟩ : ∃ v, un[k3] = v := ⟨_, rfl⟩
                    rw [hv] at hcu hmem Ht HCU
                    obtain ⟨i, hi⟩ : ∃ i, iof 0 v d.1 = i := ⟨_, rfl⟩
                    obtain ⟨j, hj⟩ : ∃ j, iof 0 v d'.1 = j := ⟨_, rfl⟩
                    have HI := Lib.hid hi
                    have HJ := Lib.hid hj
                    obtain ⟨lp9, p90, p91, p92, fp9⟩ := box3 (P6.toExt hyi3)
                    have r1r := r1.toExt hw3
                    clear hcu0
                    go_wp2_with fail
                    refine wp_region_ext (by kernel_rfl) (by kernel_rfl) ?_
                    repeat (go_big_quiet_step ((go_at_call 89; exact quietEj (l7Find_any hvaz (r1r.toExt (by refine x'z ?_; repeat (with_reducible (first | exact x'a _ _ | exact x'b _ | exact x'c (by assumption) | refine x'd ?_ (by assumption) | refine x'e ?_ _ | refine x'f ?_ _ | refine x'g ?_ | refine x'h ?_ ?_ _ | refine x'i ?_ _ | refine x'j ?_ | refine x'k ?_ _ | refine x'l ?_ _ _ | refine x'm ?_ | assumption | (refine x'n ?_; omega) | omega))))) HI.out)))
                    refine wpQuiet_nil ?_
                    rintro _ ⟨zz, rfl⟩
                    obtain ⟨wz, hwz⟩ : ∃ wz, ext wr zz = wz := ⟨_, rfl⟩
                    rw [hwz]
                    have hy4 : ∃ y, wz = ext wr y := ⟨zz, hwz.symm⟩
                    have hyz3 := trans_ext hy3 hy4
                    have hyiz := trans_ext hyi3 hy4
                    have hwz3 := trans_ext hw3 hy4
                    have hS4 := hS3.toExt hy4
                    clear lp9 p90 p91 p92 fp9 hcu hbu hwz hS3 r1r
                    have hcu := cellW hyiz hbu0 HCU.out
                    have hbu := ltW hyiz hbu0
                    by_cases ma : v ∈ d.1
                    · obtain ⟨p, hp1, hp2, hp3⟩ := iof_at (r := r) ma
                      rw [hi] at hp2
                      obtain ⟨br', or', rfl, hbr', hcr'⟩ := (hvr.toExt hwz3).atI' (n := p) (by rw [HLR.out]; exact hp1)
                      have hp4 : (p : Int) < (r.length : Int) := by rw [HLR.out]; omega
                      have hgv : gval d.1 r d'.1 s v = r.getD p 0 := by unfold gval; rw [if_pos ma, hp3]
                      obtain ⟨x, hx⟩ : ∃ x, r.getD p 0 = x := ⟨_, rfl⟩
                      rw [hx] at hcr' hgv
                      rw [hgv] at Ht
                      have hcr := cellW hwz3 hbr0 HCR.out
                      have hbr := ltW hwz3 hbr0
                      obtain ⟨lp9, p90, p91, p92, fp9⟩ := box3 (P6.toExt hyiz)
                      subst hp2
                      clear hi hj hv hmem hp3 hx hgv ma hcu hbu
                      go_wp2_with (at_builtin; refine wpList_app1 (E := sI) (d := x) rfl _ _ _ rfl tI rfl rfl rfl (by simp) (fun _ => ⟨rfl, rfl⟩) rfl (by simp [Value.oneCell']) hS4 hlk3 (by omega) ?_; intro v' w' F' hS' hC' hF')
                      exact ⟨⟨k3 + 1, F', by go_num, by omega, by rw [Ht.out]; exact hS', Lib.hid (newer HF3.out (size_of_ext hyz3) hF'), hC'.isExt hyz3 HF3.out⟩, by simp [intOf]; omega⟩
                    · have mb : v ∈ d'.1 := by
                        rcases hmem with h | h
                        · exact absurd h ma
                        · exact h
                      obtain ⟨q, hq1, hq2, hq3⟩ := iof_at (r := s) mb
                      rw [hj] at hq2
                      obtain ⟨bs', os', rfl, hbs', hcs'⟩ := (hvs.toExt hw12).atI' (n := q) (by rw [HLS.out]; exact hq1)
                      have hq4 : (q : Int) < (s.length : Int) := by rw [HLS.out]; omega
                      have hgv : gval d.1 r d'.1 s v = s.getD q 0 := by unfold gval; rw [if_neg ma, hq3]
                      obtain ⟨x, hx⟩ : ∃ x, s.getD q 0 = x := ⟨_, rfl⟩
                      rw [hx] at hcs' hgv
                      rw [hgv] at Ht
                      clear hcu hbu
                      have hcs := cellW hw12 hbs0 HCS.out
                      have hbs := ltW hw12 hbs0
                      have hcu := cellW hyi12 hbu0 HCU.out
                      have hbu := ltW hyi12 hbu0
                      obtain ⟨lq9, q90, q91, q92, fq9⟩ := box3 (Q6.toExt hyi12)
                      rw [iof_none ma] at hi
                      subst hq2 hi
                      clear hj hv hmem hq3 hx hgv ma mb
                      go_wp2_with fail
                      go_region_held3 (fun w' => (∀ a : Addr, a.block < w12.heap.size → w'.cell? a = w12.cell? a) ∧ ∃ y, w' = ext w12 y) (first | exact heldE (hC'.isExt (by refine x'z ?_; repeat (with_reducible (first | exact x'a _ _ | exact x'b _ | exact x'c (by assumption) | refine x'd ?_ (by assumption) | refine x'e ?_ _ | refine x'f ?_ _ | refine x'g ?_ | refine x'h ?_ ?_ _ | refine x'i ?_ _ | refine x'j ?_ | refine x'k ?_ _ | refine x'l ?_ _ _ | refine x'm ?_ | assumption | (refine x'n ?_; omega) | omega))) HF3.out) | exact heldE (by refine x'z ?_; repeat (with_reducible (first | exact x'a _ _ | exact x'b _ | exact x'c (by assumption) | refine x'd ?_ (by assumption) | refine x'e ?_ _ | refine x'f ?_ _ | refine x'g ?_ | refine x'h ?_ ?_ _ | refine x'i ?_ _ | refine x'j ?_ | refine x'k ?_ _ | refine x'l ?_ _ _ | refine x'm ?_ | assumption | (refine x'n ?_; omega) | omega)))) (first
                        | (go_at_call 89; refine (l7Find_any hvbz (s1.toExt (trans_ext hw12 (by refine x'z ?_; repeat (with_reducible (first | exact x'a _ _ | exact x'b _ | exact x'c (by assumption) | refine x'd ?_ (by assumption) | refine x'e ?_ _ | refine x'f ?_ _ | refine x'g ?_ | refine x'h ?_ ?_ _ | refine x'i ?_ _ | refine x'j ?_ | refine x'k ?_ _ | refine x'l ?_ _ _ | refine x'm ?_ | assumption | (refine x'n ?_; omega) | omega)))))).mono ?_; rintro e w13 ⟨rfl, hx13⟩; rw [HJ.out])
                        | (refine step_app1 (E := sI) (d := x) (by rfl) _ _ _ (by rfl) tI (by rfl) (by rfl) (by rfl) (by simp) (fun _ => ⟨rfl, rfl⟩) (by rfl) (by simp [Value.oneCell']) (hS4.toExt (by refine x'z ?_; repeat (with_reducible (first | exact x'a _ _ | exact x'b _ | exact x'c (by assumption) | refine x'd ?_ (by assumption) | refine x'e ?_ _ | refine x'f ?_ _ | refine x'g ?_ | refine x'h ?_ ?_ _ | refine x'i ?_ _ | refine x'j ?_ | refine x'k ?_ _ | refine x'l ?_ _ _ | refine x'm ?_ | assumption | (refine x'n ?_; omega) | omega)))) hlk3 (by omega) ?_; intro v' w' F' hS' hC' hF'))
                      all_goals
                        have hyz13 : ∃ y, w13 = ext w12 y := (by refine x'z ?_; repeat (with_reducible (first | exact x'a _ _ | exact x'b _ | exact x'c (by assumption) | refine x'd ?_ (by assumption) | refine x'e ?_ _ | refine x'f ?_ _ | refine x'g ?_ | refine x'h ?_ ?_ _ | refine x'i ?_ _ | refine x'j ?_ | refine x'k ?_ _ | refine x'l ?_ _ _ | refine x'm ?_ | assumption | (refine x'n ?_; omega) | omega)))
                        go_wp2
                        exact ⟨⟨k3 + 1, F', by go_num, by omega, by rw [Ht.out]; exact hS', Lib.hid (newer HF3.out (size_of_ext hyz13) hF'), hC'.isExt hyz13 HF3.out⟩, by simp [intOf]; omega⟩
                  · rw [show un.take k3 = un from List.take_of_length_le (by omega)] at hS3
                    obtain ⟨g, hg⟩ : ∃ g, glueR un d.1 r d'.1 s = g := ⟨_, rfl⟩
                    rw [hg] at hS3 HST
                    obtain ⟨A9, c9, rfl, _, _⟩ := hS3.form
                    have hy23 := trans_ext hy12 hy3
                    have hS23 := HS2.out.toExt hy23
                    have hN3 := nodup_more HN2.out hS3.nodup HFl2.out (fun b hb => Nat.le_trans hz12 (HF3.out b hb))
                    clear hg
                    go_wp2_with (at_builtin; refine wpList_appN (E := sRow) (d := g) (G := F3) rfl _ _ _ rfl tIIr rfl rfl rfl (by simp) ⟨_, rfl, hS3⟩ rfl (by simp [Value.oneCell']) hS23 hN3 hlk (by omega) ?_; intro v' w' F' hS' hC' hN' hF')
                    refine ⟨⟨k2 + 1, F', by go_num, by omega, by rw [HST.out]; exact hS', Lib.hid hN', Lib.hid (fun b hb => ?_), hC'.isExt hyi3 HF2.out⟩, by simp [intOf]; omega⟩
                    have hzw := size_of_ext hyi12
                    have hzq := size_of_ext hyi3
                    rcases hF' b hb with h | h | h
                    · exact HF2.out b h
                    · have := HF3.out b h; omega
                    · omega
              · have HST := Lib.hid (show jrow un d.1 r d'.1 (d'.2.2.take (k2 + 1)) = jr by rw [HJS.out, if_neg (fun h => hC0 (hag.2 h)), List.append_nil])
                have hne : (C != 0) = true := by simpa using hC0
                clear hag hC0
                go_wp2_with fail
                go_region_held3 (fun w' => (∀ a : Addr, a.block < wr.heap.size → w'.cell? a = wr.cell? a) ∧ ∃ y, w' = ext wr y) (first | exact heldE (by refine x'z ?_; repeat (with_reducible (first | exact x'a _ _ | exact x'b _ | exact x'c (by assumption) | refine x'd ?_ (by assumption) | refine x'e ?_ _ | refine x'f ?_ _ | refine x'g ?_ | refine x'h ?_ ?_ _ | refine x'i ?_ _ | refine x'j ?_ | refine x'k ?_ _ | refine x'l ?_ _ _ | refine x'm ?_ | assumption | (refine x'n ?_; omega) | omega)))) (first
                  | (go_at_call 73; with_reducible refine (l5Cols_any (hvr.toExt ?_) hxz (rx6.toExt ?_) HPI.out).mono ?_; (focus (exact (trans_ext hwi (by refine x'z ?_; repeat (with_reducible (first | exact x'a _ _ | exact x'b _ | exact x'c (by assumption) | refine x'd ?_ (by assumption) | refine x'e ?_ _ | refine x'f ?_ _ | refine x'g ?_ | refine x'h ?_ ?_ _ | refine x'i ?_ _ | refine x'j ?_ | refine x'k ?_ _ | refine x'l ?_ _ _ | refine x'm ?_ | assumption | (refine x'n ?_; omega) | omega)))))); (focus (exact (trans_ext hyi (by refine x'z ?_; repeat (with_reducible (first | exact x'a _ _ | exact x'b _ | exact x'c (by assumption) | refine x'd ?_ (by assumption) | refine x'e ?_ _ | refine x'f ?_ _ | refine x'g ?_ | refine x'h ?_ ?_ _ | refine x'i ?_ _ | refine x'j ?_ | refine x'k ?_ _ | refine x'l ?_ _ _ | refine x'm ?_ | assumption | (refine x'n ?_; omega) | omega)))))); rw [HPX.out]; rintro e w10 ⟨v10, F10, rfl, hx10, hS10, hF10⟩; obtain ⟨A10, c10, rfl, _, _, rv10⟩ := hS10.view sI_v)
                  | (go_at_call 73; with_reducible refine (l5Cols_any (hvs.toExt ?_) hyz (ry6.toExt ?_) HPS.out).mono ?_; (focus (exact (trans_ext hwi (by refine x'z ?_; repeat (with_reducible (first | exact x'a _ _ | exact x'b _ | exact x'c (by assumption) | refine x'd ?_ (by assumption) | refine x'e ?_ _ | refine x'f ?_ _ | refine x'g ?_ | refine x'h ?_ ?_ _ | refine x'i ?_ _ | refine x'j ?_ | refine x'k ?_ _ | refine x'l ?_ _ _ | refine x'm ?_ | assumption | (refine x'n ?_; omega) | omega)))))); (focus (exact (trans_ext hyi (by refine x'z ?_; repeat (with_reducible (first | exact x'a _ _ | exact x'b _ | exact x'c (by assumption) | refine x'd ?_ (by assumption) | refine x'e ?_ _ | refine x'f ?_ _ | refine x'g ?_ | refine x'h ?_ ?_ _ | refine x'i ?_ _ | refine x'j ?_ | refine x'k ?_ _ | refine x'l ?_ _ _ | refine x'm ?_ | assumption | (refine x'n ?_; omega) | omega)))))); rw [HPY.out]; rintro e w11 ⟨v11, F11, rfl, hx11, hS11, hF11⟩; obtain ⟨A11, c11, rfl, _, _, rv11⟩ := hS11.view sI_v)
                  | (go_at_call 88; refine (specCompareRows_any hpxl (rv10.toExt hx11) hpyl rv11).mono ?_; rintro e w12 ⟨rfl, hx12⟩; rw [HC.out]))
                have hy12 : ∃ y, w12 = ext wr y := (by refine x'z ?_; repeat (with_reducible (first | exact x'a _ _ | exact x'b _ | exact x'c (by assumption) | refine x'd ?_ (by assumption) | refine x'e ?_ _ | refine x'f ?_ _ | refine x'g ?_ | refine x'h ?_ ?_ _ | refine x'i ?_ _ | refine x'j ?_ | refine x'k ?_ _ | refine x'l ?_ _ _ | refine x'm ?_ | assumption | (refine x'n ?_; omega) | omega)))
                clear hS10 hF10 rv10 hS11 hF11 rv11
                go_wp2
                exact ⟨⟨k2 + 1, F2, by go_num, by omega, by rw [HST.out]; exact HS2.out.toExt hy12, HN2, HF2, trans_ext hyi hy12⟩, by simp [intOf]; omega⟩
            · have HST := Lib.hid (show joinL un d.1 (d.2.2.take (k + 1)) d'.1 d'.2.2 = jl ++ jrow un d.1 r d'.1 d'.2.2 by rw [Hst.out])
              rw [show d'.2.2.take k2 = d'.2.2 from List.take_of_length_le (by omega)] at hS2
              rw [← HST.out] at hS2
              obtain ⟨jn, hjn⟩ : ∃ l, joinL un d.1 (d.2.2.take (k + 1)) d'.1 d'.2.2 = l := ⟨_, rfl⟩
              have HJN2 := Lib.hid hjn
              rw [hjn] at hS2
              clear hjn
              go_wp2
              exact ⟨⟨k + 1, F2, by go_num, by omega, by rw [HJN2.out]; exact hS2, HN2, HF2, hyi⟩, by simp [intOf]; omega⟩
        · obtain rfl : k = d.2.2.length := by omega
          rw [List.take_of_length_le (Nat.le_refl _)] at hS
          have HLBk := HLB.out d.2.2.length
          rw [List.take_of_length_le (Nat.le_refl _)] at HLBk
          obtain ⟨jn, hjn⟩ : ∃ l, joinL un d.1 d.2.2 d'.1 d'.2.2 = l := ⟨_, rfl⟩
          rw [hjn] at hS HJN HLE HLBk
          have HLE2 := Lib.hid (fun x (hx : x ∈ jn) => show x.length ≤ 1000000000 by rw [HLE.out x hx]; omega)
          obtain ⟨A7, c7, rfl, hc7, _, rv7⟩ := hS.view (V := vSl 1 vI) (sSl_v sI_v)
          have hjb : jn.length ≤ 1000000000 := by omega
          have hI64 : I64 (un.length : Int) := ⟨by omega, by omega⟩
          obtain ⟨o, ho⟩ : ∃ o, joinR d d' = o := ⟨_, rfl⟩
          have HO := Lib.hid ho
          rw [ho] at HJN HJF
          clear hjn ho
          have R7 := R6.toExt hy
          cases o with
          | none =>
            have HZ := HO
            have HNW := Lib.hid (show newR (un.length : Int) jn = none from HJN.out)
            go_wp2_with (go_at_call 90; refine (specNewRelation_any hI64 hjb hc7 HLE2.out rv7).mono ?_; rw [HNW.out]; rintro e w9 ⟨u0, u1, F9, rfl, hx9, hS9, hN9, hF9⟩; obtain ⟨A9, c9, rfl, rfl, hS9'⟩ := sRel_form hS9; obtain ⟨lr9, r90, r91, r92, fr9⟩ := box3 (R7.toExt hx9))
            refine bodyPost_ret (v := .tuple #[.agg #[.slice none 0 0, .int .i64 0, .slice none 0 0], .bool false]) (by simp [results, Tryz.results53, go_sem, *]) rfl (vrOut_none HZ.out rfl (by refine x'z ?_; repeat (with_reducible (first | exact x'a _ _ | exact x'b _ | exact x'c (by assumption) | refine x'd ?_ (by assumption) | refine x'e ?_ _ | refine x'f ?_ _ | refine x'g ?_ | refine x'h ?_ ?_ _ | refine x'i ?_ _ | refine x'j ?_ | refine x'k ?_ _ | refine x'l ?_ _ _ | refine x'm ?_ | assumption | (refine x'n ?_; omega) | omega))))
          | some x =>
            have HX1 := Lib.hid (show x.1 = un from HJF.out x rfl)
            have HNW := Lib.hid (show newR (un.length : Int) jn = some x.2 from HJN.out)
            go_wp2_with (go_at_call 90; refine (specNewRelation_any hI64 hjb hc7 HLE2.out rv7).mono ?_; rw [HNW.out]; rintro e w9 ⟨u0, u1, F9, rfl, hx9, hS9, hN9, hF9⟩; obtain ⟨A9, c9, rfl, rfl, hS9'⟩ := sRel_form hS9; obtain ⟨lr9, r90, r91, r92, fr9⟩ := box3 (R7.toExt hx9))
            have hz6 := size_of_ext hy
            have hz4 := size_of_ext hx6
            have hzw := size_of_ext xw5
            have hSu8 := hSu.toExt (trans_ext hy hx9)
            have hltu := hSu.lt
            refine bodyPost_ret (v := .tuple #[.agg #[.slice Au un.length cu, .int .i64 x.2.1, .slice A9 x.2.2.length c9], .bool true]) (by simp [results, Tryz.results53, go_sem, *]) rfl ⟨_, _, _, Fu ++ F9, by rw [HO.out]; rfl, (by refine x'z ?_; repeat (with_reducible (first | exact x'a _ _ | exact x'b _ | exact x'c (by assumption) | refine x'd ?_ (by assumption) | refine x'e ?_ _ | refine x'f ?_ _ | refine x'g ?_ | refine x'h ?_ ?_ _ | refine x'i ?_ _ | refine x'j ?_ | refine x'k ?_ _ | refine x'l ?_ _ _ | refine x'm ?_ | assumption | (refine x'n ?_; omega) | omega))), ?_, ?_, fun b hb => ?_⟩
            · rw [HO.out, show (some x).getD zVR = (un, x.2.1, x.2.2) by rw [← HX1.out]; rfl]
              refine sVR_mk (hSu8.chg (G := [w.heap.size + 1 + 1]) (by repeat (with_reducible (first | exact Chg.refl _ _ | refine Chg.trans0 ?_ (by assumption) | refine Chg.extS ?_ _ | refine Chg.alloc ?_ _ | refine Chg.drew ?_ | refine Chg.setCell ?_ (.inl (by simp)) _))) ?_) (OD.chg (E := sII) (G := [w.heap.size + 1 + 1]) hS9' (by repeat (with_reducible (first | exact Chg.refl _ _ | refine Chg.trans0 ?_ (by assumption) | refine Chg.extS ?_ _ | refine Chg.alloc ?_ _ | refine Chg.drew ?_ | refine Chg.setCell ?_ (.inl (by simp)) _))) ?_)
              · intro b hb h
                have := HFu.out b hb
                rw [List.mem_singleton.1 h] at this
                omega
              · intro b hb h
                have := hF9 b hb
                rw [List.mem_singleton.1 h] at this
                omega
            · exact nodup_more (n := W6.heap.size) hSu.nodup hN9 hltu (fun b hb => by have := hF9 b hb; omega)
            · rcases List.mem_append.1 hb with h | h
              · have := HFu.out b h; omega
              · have := hF9 b h; omega
end Go.Proofs.YtfigcfajkilhiaaGreat
