/- Contracts of functions that the statement reaches. -/
import Derived.Test.YtbjpkfgkmilkdaaL12
namespace Go.Proofs.Ytbjpkfgkmilkdaa
open Go.RowKit
attribute [local go_sem ↓] Go.wp_at_zero Go.wp_at_succ
theorem sq_f {a : List (List Q2)} {b : List Q2} (h : sqB a b.length b.length = false) : solR a b = none := by unfold solR sysB; rw [h]; simp
theorem sq_t {a : List (List Q2)} {n : Nat} (h : sqB a n n = true) : a.length = n ∧ a.all (rowB n) = true := by
  unfold sqB at h
  rw [Bool.and_eq_true] at h
  exact ⟨by simpa using h.2, h.1⟩
theorem vr_step {b : List Q2} {k : Nat} (h : k < b.length) : (b.drop k).all isVR = (isVR b[k] && (b.drop (k + 1)).all isVR) := by
  rw [List.drop_eq_getElem_cons h, List.all_cons]
theorem vr_end {b : List Q2} {k : Nat} (h : ¬ k < b.length) : (b.drop k).all isVR = true := by
  rw [List.drop_eq_nil_of_le (by omega)]; rfl
theorem swap_sym {ds : List (List Q2)} {p k : Nat} (hp : p < ds.length) (hk : k < ds.length) : (ds.set k ds[p]).set p ds[k] = (ds.set p ds[k]).set k ds[p] := by
  by_cases e : p = k
  · subst e; rfl
  · rw [List.set_comm _ _ (fun h => e h.symm)]
theorem stepS_len {p n : Nat} : ∀ {j i : Nat} {m m' : List (List Q2)}, stepS p j i m = some m' → (∀ r ∈ m, r.length = n) → m'.length = m.length ∧ ∀ r ∈ m', r.length = n
  | 0, i, m, m', h, hr => by
    rw [stepS] at h
    injection h with h
    subst h
    exact ⟨rfl, hr⟩
  | j + 1, i, m, m', h, hr => by
    rw [stepS] at h
    split at h
    · exact stepS_len h hr
    · cases he : elimR p (gr m p) (gr m i) with
      | none => rw [he] at h; cases h
      | some r =>
        rw [he] at h
        by_cases hi : i < m.length
        · have hl := elimR_len he
          rw [gr_at hi] at hl
          have := stepS_len h (fun x hx => by
            rcases List.mem_or_eq_of_mem_set hx with q | q
            · exact hr x q
            · rw [q, hl]; exact hr _ (List.getElem_mem hi))
          exact ⟨by rw [this.1, List.length_set], this.2⟩
        · dsimp only at h
          rw [List.set_eq_of_length_le (by omega)] at h
          exact stepS_len h hr
theorem stepS_facts {p n : Nat} {m m' : List (List Q2)} (h : stepS p n 0 m = some m') (hl : m.length = n) (hr : ∀ r ∈ m, r.length = n + 1) : m'.length = n ∧ ∀ r ∈ m', r.length = n + 1 := by
  have := stepS_len h hr
  exact ⟨by rw [this.1, hl], this.2⟩
theorem l13Step_n {g c p n : Nat} {m : List (List Q2)} {F : List Nat} {w : World} (hmn : m.length = n) (hS : SV 26 1 (sSl 67 2 sR) w (.slice (some ⟨g, 0, none⟩) n c) m F) (hN : F.Nodup) (hn : n ≤ 6) (hr : ∀ r ∈ m, r.length = n + 1) (hp : p < n) :
    Calls Try.prog 46 #[.slice (some ⟨g, 0, none⟩) n c, .int .i64 p] w (StP 26 67 w (.slice (some ⟨g, 0, none⟩) n c) F (stepS p n 0 m)) := by
  subst hmn
  exact l13Step_any (n1 := m.length + 1) hS hN (by omega) hr hp (by omega) (by omega)
set_option maxRecDepth 100000 in
set_option maxHeartbeats 16000000 in
theorem specSolve_no {A A' : Option Addr} {c c' : Nat} {a : List (List Q2)} {b : List Q2} {w : World} (h1 : RRR w A a) (hal : ∀ x ∈ a, x.length ≤ 1000000000) (ha : a.length ≤ 1000000000) (hb : b.length ≤ 1000000000) (hno : ¬ (b.length ≤ 6 ∧ sqB a b.length b.length = true)) :
    Calls Try.prog 9 #[.slice A a.length c, .slice A' b.length c'] w (SoRes 67 (solR a b) w) := by
  by_cases h6 : b.length ≤ 6
  · have hv : sqB a b.length b.length = false := by
      cases h : sqB a b.length b.length with
      | false => rfl
      | true => exact absurd ⟨h6, h⟩ hno
    have HE := Lib.hid (sq_f hv)
    have HV := Lib.hid hv
    have HL := Lib.hid hal
    have q2 : decide ((6 : Int) < (b.length : Int)) = false := by simp; omega
    clear hv hno hal
    go_enter Try.func9, Try.ntmps9
    go_wp2_with (go_at_call 44; refine (l13Square_any ha (h1.toExt (by refine x'z ?_; repeat (with_reducible (first | exact x'a _ _ | exact x'b _ | exact x'c (by assumption) | refine x'd ?_ (by assumption) | refine x'e ?_ _ | refine x'f ?_ _ | refine x'g ?_ | refine x'h ?_ ?_ _ | refine x'i ?_ _ | refine x'j ?_ | refine x'k ?_ _ | refine x'l ?_ _ _ | refine x'm ?_ | assumption | (refine x'n ?_; omega) | omega)))) HL.out hb hb).mono ?_; rintro e w1 ⟨rfl, hx1⟩; rw [HV.out])
    go_ret2
    exact ⟨_, [w1.heap.size], by rw [HE.out]; rfl, trans_ext hx1 (alloc_ext _ _), by rw [HE.out]; exact SV.empty _, fun x hx => by rw [List.mem_singleton.1 hx]; exact size_of_ext hx1⟩
  · have HE := Lib.hid (sysB_f1 (a := a) h6)
    have q2 : decide ((6 : Int) < (b.length : Int)) = true := by simp; omega
    clear hno
    go_enter Try.func9, Try.ntmps9
    go_wp2
    go_ret2
    exact ⟨_, [w.heap.size], by rw [HE.out]; rfl, alloc_ext _ _, by rw [HE.out]; exact SV.empty _, by simp⟩
set_option maxRecDepth 100000 in
set_option maxHeartbeats 32000000 in
theorem specSolve_yes {A A' : Option Addr} {c c' n : Nat} {a : List (List Q2)} {b : List Q2} {w : World} (h1 : RRR w A a) (hal : ∀ x ∈ a, x.length ≤ 1000000000) (h2 : RR w A' b) (hn : n ≤ 6) (hb : b.length = n) (hs : sqB a n n = true) :
    Calls Try.prog 9 #[.slice A a.length c, .slice A' b.length c'] w (SoRes 67 (solR a b) w) := by
  have HL := Lib.hid hal
  have HSQ := Lib.hid (show sqB a b.length b.length = true by rw [hb]; exact hs)
  have hb1 : b.length ≤ n := Nat.le_of_eq hb
  have hb2 : n ≤ b.length := Nat.le_of_eq hb.symm
  have ha1 : a.length ≤ n := Nat.le_of_eq (sq_t hs).1
  have ha2 : n ≤ a.length := Nat.le_of_eq (sq_t hs).1.symm
  have HB := Lib.hid hb
  have HA := Lib.hid (sq_t hs).1
  have HRW := Lib.hid (sq_t hs).2
  have q2 : decide ((6 : Int) < (b.length : Int)) = false := by simp; omega
  clear hal hb hs
  go_enter Try.func9, Try.ntmps9
  go_wp2_with (go_at_call 44; refine (l13Square_any (by omega) (h1.toExt (by refine x'z ?_; repeat (with_reducible (first | exact x'a _ _ | exact x'b _ | exact x'c (by assumption) | refine x'd ?_ (by assumption) | refine x'e ?_ _ | refine x'f ?_ _ | refine x'g ?_ | refine x'h ?_ ?_ _ | refine x'i ?_ _ | refine x'j ?_ | refine x'k ?_ _ | refine x'l ?_ _ _ | refine x'm ?_ | assumption | (refine x'n ?_; omega) | omega)))) HL.out (by omega) (by omega)).mono ?_; rintro e w1 ⟨rfl, hx1⟩; rw [HSQ.out])
  clear q2
  go_loopw [7, 8] (fun v i wr => ∃ (k : Nat) (F : List Nat), i = .int .i64 k ∧ k ≤ b.length ∧ SV 26 1 (sSl 67 2 sR) wr v (augL (a.take k) (b.take k)) F ∧ F.Nodup ∧ (∀ b ∈ F, w.heap.size ≤ b) ∧ (∃ y, wr = ext w y) ∧ Hid ((b.drop k).all isVR = allV b)) (fun _ i _ => b.length - (intOf i).toNat)
  case atStart => exact ⟨0, [w1.heap.size], rfl, by omega, SV.empty w1, by simp, fun x hx => by rw [List.mem_singleton.1 hx]; exact size_of_ext hx1, trans_ext hx1 (alloc_ext _ _), Lib.hid rfl⟩
  case round =>
    obtain ⟨k, F, rfl, hk, hS, hN, hF, hy, Hj⟩ := hrel
    have HS := Lib.hid hS
    have HN := Lib.hid hN
    have HF := Lib.hid hF
    have HY := Lib.hid hy
    clear hN hF
    by_cases hlt : k < b.length
    · have hka : k < a.length := Nat.lt_of_lt_of_le hlt (Nat.le_trans hb1 ha2)
      obtain ⟨ba, oa, Ar, cr, rfl, hba0, hca0, hvr0⟩ := h1.atV hka
      obtain ⟨br, ro, rfl, hbr0, hb10, hb20⟩ := h2.atR hlt
      have hrl := HL.out a[k] (List.getElem_mem hka)
      have hbaF : ba ∉ F := fun h => Nat.lt_irrefl _ (Nat.lt_of_lt_of_le hba0 (HF.out ba h))
      have hbrF : br ∉ F := fun h => Nat.lt_irrefl _ (Nat.lt_of_lt_of_le hbr0 (HF.out br h))
      have hbr := ltX hy hbr0
      have hb1' := cellX hy hbr0 hb10
      have hb2' := cellX hy hbr0 hb20
      have HVR0 := Lib.hid hvr0
      have HCA0 := Lib.hid hca0
      have ej := Hj.out
      rw [vr_step hlt] at ej
      clear hvr0 hca0 hb10 hb20 hS
      cases hvk : isVR b[k] with
      | false =>
        rw [hvk, Bool.false_and] at ej
        have HE := Lib.hid (sysB_f3 (a := a) ej.symm)
        have HVK := Lib.hid (show isVR (b[k].1, b[k].2) = false from hvk)
        clear ej hvk
        go_wp2_with (go_at_call 45; refine specIsValidRational_any.mono ?_; rintro e w3 ⟨rfl, hx3⟩; rw [HVK.out])
        go_ret2
        exact ⟨_, [w3.heap.size], by rw [HE.out]; rfl, trans_ext HY.out (trans_ext hx3 (alloc_ext _ _)), by rw [HE.out]; exact SV.empty _, fun x hx => by rw [List.mem_singleton.1 hx]; exact size_of_ext (trans_ext HY.out hx3)⟩
      | true =>
        rw [hvk, Bool.true_and] at ej
        have HJ := Lib.hid ej
        have HVK := Lib.hid (show isVR (b[k].1, b[k].2) = true from hvk)
        clear ej hvk
        have HAU := Lib.hid (augL_take hka hlt)
        have hml : (augL (a.take k) (b.take k)).length + 1 ≤ 2000000000 := by rw [augL_length (by omega) (by omega)]; omega
        have HML := Lib.hid hml
        clear hml
        go_upto_region 10 with (go_at_call 45; refine specIsValidRational_any.mono ?_; rintro e w3 ⟨rfl, hx3⟩; rw [HVK.out])
        have hyw3 := trans_ext HY.out hx3
        refine sSR10_any (m := augL (a.take k) (b.take k)) (F := F) (row := a[k]) (x := b[k]) (cellX hyw3 hba0 HCA0.out) (cellX hx3 hbr hb1') (cellX hx3 hbr hb2') (ltX hyw3 hba0) (ltX hx3 hbr) hbaF hbrF hka hlt (HVR0.out.toExt hyw3) hrl (HS.out.toExt hx3) HN.out HML.out ?_
        intro x41 x42 x43 x44 x45 x46 x47 x48 x49 x50 x51 x52 x53 x54 x55 v6 w6 F6 hS6 hN6 hC6 hF6
        have HS6 := Lib.hid hS6
        have HN6 := Lib.hid hN6
        have HX6 := Lib.hid (hC6.isExt hyw3 HF.out)
        have HF6 := Lib.hid (show ∀ x ∈ F6, w.heap.size ≤ x from fun x h => by
          rcases hF6 x h with q | q
          · exact HF.out x q
          · exact Nat.le_trans (size_of_ext hyw3) q)
        clear hS6 hN6 hC6 hF6
        go_wp2
        exact ⟨⟨k + 1, F6, by go_num, hlt, by rw [HAU.out]; exact HS6.out, HN6.out, HF6.out, HX6.out, HJ⟩, mea hlt⟩
    · have ej := Hj.out
      rw [vr_end hlt] at ej
      have HE := Lib.hid (sysB_t (a := a) HB.out hn HA.out ej.symm HRW.out)
      have e1 : a.take k = a := List.take_of_length_le (by omega)
      have e2 : b.take k = b := List.take_of_length_le (by omega)
      rw [e1, e2] at hS HS
      have hml : (augL a b).length = n := by have := augL_length (a := a) (b := b) (k := k) (by omega) (by omega); rw [e1, e2] at this; omega
      have HR0 := Lib.hid (augL_rows (b := b) HRW.out)
      obtain ⟨A7, c7, e7, hc7, _⟩ := hS.form
      rw [hml] at e7 hc7
      subst e7
      have hm1 : (augL a b).length ≤ n := Nat.le_of_eq hml
      have hm2 : n ≤ (augL a b).length := Nat.le_of_eq hml.symm
      clear ej e1 e2 hml hS hy Hj h1 h2 HRW
      go_wp2
      clear hk hlt
      go_loopw [9] (fun i wr => ∃ (p : Nat) (ds : List (List Q2)) (F : List Nat), i = .int .i64 p ∧ p ≤ n ∧ ds.length ≤ n ∧ n ≤ ds.length ∧ SV 26 1 (sSl 67 2 sR) wr (.slice A7 n c7) ds F ∧ F.Nodup ∧ (∀ b ∈ F, w.heap.size ≤ b) ∧ (∃ y, wr = ext w y) ∧ Hid (∀ r ∈ ds, r.length = n + 1) ∧ Hid (solS n (n - p) p ds = solS n n 0 (augL a b))) (fun i _ => n - (intOf i).toNat)
      case atStart => exact ⟨0, augL a b, F, rfl, by omega, hm1, hm2, HS.out, HN.out, HF.out, HY.out, HR0, Lib.hid rfl⟩
      case round =>
        clear HS HN HF HY HR0
        obtain ⟨p, ds, F, rfl, hp, hd1, hd2, hS, hN, hF, hy, HR, Hj⟩ := hrel
        have HS := Lib.hid hS
        have HN := Lib.hid hN
        have HF := Lib.hid hF
        have HY := Lib.hid hy
        clear hN hF hy
        by_cases hlt : p < n
        · have hpd : p < ds.length := Nat.lt_of_lt_of_le hlt hd2
          obtain ⟨g, cap, hA, hgF, _, _⟩ := hS.block (by intro e; rw [e] at hpd; simp at hpd)
          have hA7 := sl_blk7 hA
          clear hA
          subst hA7
          go_wp2
          go_loop [10] (fun i => ∃ k : Nat, i = .int .i64 k ∧ p ≤ k ∧ k ≤ n ∧ Hid (pivS p ds (n - k) k = pivS p ds (n - p) p)) (fun i => n - (intOf i).toNat)
          case atStart => exact ⟨p, rfl, by omega, by omega, Lib.hid rfl⟩
          case round =>
            obtain ⟨k, rfl, hpk, hk, Hk⟩ := hrel
            by_cases hkn : k < n
            · have hkd : k < ds.length := Nat.lt_of_lt_of_le hkn hd2
              obtain ⟨vk, Gk, hgw, hck, hfz, hvk, -, -, -, -, -, -⟩ := hS.row HN.out hkd
              have lk1 : ds[k].length ≤ n + 1 := Nat.le_of_eq (HR.out ds[k] (List.getElem_mem hkd))
              have lk2 : n + 1 ≤ ds[k].length := Nat.le_of_eq (HR.out ds[k] (List.getElem_mem hkd)).symm
              obtain ⟨Ak, ck, rfl, _, _⟩ := hvk.form
              have hpk2 : p < ds[k].length := Nat.lt_of_lt_of_le (Nat.lt_succ_of_lt hlt) lk2
              obtain ⟨bk, ok, rfl, hbk, hak, hak'⟩ := (hvk.toView sR_v).atR hpk2
              clear hvk
              by_cases hz : ds[k][p].1 = 0
              · have q2 : (ds[k][p].1 == 0) = true := by simp [hz]
                have HK2 := Lib.hid ((pivS_go hkn (by rw [gr_at hkd, gq_at hpk2]; exact hz)).symm.trans Hk.out)
                clear hz
                go_wp2
                exact ⟨⟨k + 1, by go_num, Nat.le_succ_of_le hpk, hkn, HK2⟩, mea hkn⟩
              · have q2 : (ds[k][p].1 == 0) = false := by simp [hz]
                have q3 : ((k : Int) == (b.length : Int)) = false := by rw [beq_eq_false_iff_ne]; omega
                have HK2 := Lib.hid ((pivS_hit hkn (by rw [gr_at hkd, gq_at hpk2]; exact hz)).symm.trans Hk.out)
                clear hz hS
                obtain ⟨vp, Gp, -, hcp, hfp, hvp, -⟩ := HS.out.row HN.out hpd
                obtain ⟨Ap, cp, rfl, _, _⟩ := hvp.form
                clear hvp
                obtain ⟨F2, hS3, hN3, hF3, hC3⟩ := HS.out.swap HN.out hkd hpd hck hcp
                rw [swap_sym hpd hkd] at hS3
                go_upto_region 21 with fail
                refine wp_name ?_
                intro W5 hW5
                have c5 : W5.cell? ⟨g, p, none⟩ = some (.slice Ap ds[p].length cp) := by
                  rw [hW5.out]
                  by_cases e : k = p
                  · subst e
                    exact World.cell?_setCell_same _ _ _ hck
                  · rw [World.cell?_setCell_other _ _ _ _ (by intro h; injection h with _ h _; exact e h)]
                    exact hcp
                have f5 : ∀ j, W5.frozen? ⟨g, j, none⟩ = false := fun j => by rw [hW5.out, World.frozen?_setCell]; exact hfp j
                rw [← hW5.out] at hS3 hC3
                clear hW5 hck hcp hfp hfz hak hak' hbk hgw
                have HX3 := Lib.hid (hC3.isExt HY.out (fun x hx => by rw [List.mem_singleton.1 hx]; exact HF.out g hgF))
                have HSW : Hid (∀ m', stepS p n 0 ((ds.set p ds[k]).set k ds[p]) = some m' → solS n (n - (p + 1)) (p + 1) m' = solS n n 0 (augL a b)) := Lib.hid (fun m' hm => by
                  have e0 : swapL p (pivS p ds (n - p) p) ds = (ds.set p ds[k]).set k ds[p] := by rw [← HK2.out]; unfold swapL; rw [gr_at hkd, gr_at hpd]
                  rw [← Hj.out]
                  exact (solS_go hlt (by rw [← HK2.out]; omega) (by rw [e0]; exact hm)).symm)
                have HSN : Hid (stepS p n 0 ((ds.set p ds[k]).set k ds[p]) = none → solR a b = none) := Lib.hid (fun hm => by
                  have e0 : swapL p (pivS p ds (n - p) p) ds = (ds.set p ds[k]).set k ds[p] := by rw [← HK2.out]; unfold swapL; rw [gr_at hkd, gr_at hpd]
                  rw [HE.out]
                  unfold solM
                  rw [← Hj.out, solS_step0 hlt (by rw [← HK2.out]; omega) (by rw [e0]; exact hm)])
                have HRS : Hid (∀ r ∈ (ds.set p ds[k]).set k ds[p], r.length = n + 1) := Lib.hid (fun r hr => by
                  rcases List.mem_or_eq_of_mem_set hr with h | h
                  · rcases List.mem_or_eq_of_mem_set h with h | h
                    · exact HR.out r h
                    · rw [h]; exact HR.out _ (List.getElem_mem hkd)
                  · rw [h]; exact HR.out _ (List.getElem_mem hpd))
                have hsl : ((ds.set p ds[k]).set k ds[p]).length = n := by simp; omega
                obtain ⟨sw, hsw⟩ : ∃ s, (ds.set p ds[k]).set k ds[p] = s := ⟨_, rfl⟩
                rw [hsw] at HSW HSN HRS hsl hS3
                have HSL := Lib.hid hsl
                have HS3 := Lib.hid hS3
                have HN3 := Lib.hid hN3
                have HF3 : Hid (∀ x ∈ F2, w.heap.size ≤ x) := Lib.hid (fun x hx => HF.out x (hF3 x hx))
                clear hsw hsl hS3 hN3 hF3 hC3 HS HN HF HY HR
                obtain ⟨oe, hoe⟩ : ∃ o, stepS p n 0 sw = o := ⟨_, rfl⟩
                have HOE := Lib.hid hoe
                clear hoe
                cases oe with
                | none =>
                  have HE3 := Lib.hid (HSN.out HOE.out)
                  go_wp2_with (go_at_call 46; refine (l13Step_n HSL.out HS3.out HN3.out hn HRS.out hlt).mono ?_; rintro e w3 ⟨rfl, hC4, hS4⟩; rw [HOE.out])
                  go_ret2
                  exact ⟨_, [w3.heap.size], by rw [HE3.out]; rfl, trans_ext (hC4.isExt HX3.out HF3.out) (alloc_ext _ _), by rw [HE3.out]; exact SV.empty _, fun x hx => by rw [List.mem_singleton.1 hx]; exact size_of_ext (hC4.isExt HX3.out HF3.out)⟩
                | some m' =>
                  go_wp2_with (go_at_call 46; refine (l13Step_n HSL.out HS3.out HN3.out hn HRS.out hlt).mono ?_; rintro e w3 ⟨rfl, hC4, hS4⟩; rw [HOE.out]; have HS5 := Lib.hid (hS4 m' HOE.out); have HX5 := Lib.hid (hC4.isExt HX3.out HF3.out); clear hC4 hS4)
                  have HJ2 := Lib.hid (HSW.out m' HOE.out)
                  have hm5 := stepS_facts HOE.out HSL.out HRS.out
                  exact ⟨⟨p + 1, m', F2, by go_num, hlt, Nat.le_of_eq hm5.1, Nat.le_of_eq hm5.1.symm, HS5.out, HN3.out, HF3.out, HX5.out, Lib.hid hm5.2, HJ2⟩, mea hlt⟩
            · have q3 : ((k : Int) == (b.length : Int)) = true := by simp; omega
              have HE2 := Lib.hid (show solR a b = none by
                rw [HE.out]
                unfold solM
                rw [← Hj.out, solS_none hlt (by rw [← Hk.out, pivS_end hkn]; omega)])
              clear hS
              go_wp2
              go_ret2
              exact ⟨_, [wr.heap.size], by rw [HE2.out]; rfl, trans_ext HY.out (alloc_ext _ _), by rw [HE2.out]; exact SV.empty _, fun x hx => by rw [List.mem_singleton.1 hx]; exact size_of_ext HY.out⟩
        · have ej := Hj.out
          rw [solS_end hlt] at ej
          have HM := Lib.hid (show solR a b = outS n ds n 0 [] by rw [HE.out]; unfold solM; rw [← ej])
          clear ej hS
          obtain ⟨W0, hW0⟩ : ∃ W, wr = W := ⟨_, rfl⟩
          rw [hW0] at HS HY ⊢
          clear hW0
          go_wp2
          have d62 : decide (p < b.length) = false := by simp; omega
          try simp only [d62]
          clear d62
          go_loopw [12, 13] (fun v i vs => ∃ (q : Nat) (out : List Q2) (G : List Nat), i = .int .i64 q ∧ q ≤ n ∧ out.length ≤ q ∧ SV 67 2 sR vs v out G ∧ (∀ b ∈ G, W0.heap.size ≤ b) ∧ (∃ y, vs = ext W0 y) ∧ Hid (outS n ds (n - q) q out = outS n ds n 0 [])) (fun _ i _ => n - (intOf i).toNat)
          case atStart => exact ⟨0, [], [W0.heap.size], rfl, by omega, by simp, SV.empty W0, by simp, alloc_ext _ _, Lib.hid rfl⟩
          case round =>
            obtain ⟨q, out, G, rfl, hq, hol, hO, hG, hy, Hj2⟩ := hrel
            have HO := Lib.hid hO
            have HG := Lib.hid hG
            have HY2 := Lib.hid hy
            clear hO hG hy
            by_cases hlt2 : q < n
            · have hqd : q < ds.length := Nat.lt_of_lt_of_le hlt2 hd2
              obtain ⟨g, _, hA, hgF, _, _⟩ := HS.out.block (by intro e; rw [e] at hqd; simp at hqd)
              have hA7 := sl_blk7 hA
              clear hA
              subst hA7
              have hSq := HS.out.toExt HY2.out
              obtain ⟨vq, Gq, hgw, hcq, -, hvq, -⟩ := hSq.row HN.out hqd
              obtain ⟨Aq, cq, rfl, _, _⟩ := hvq.form
              have lq1 : ds[q].length ≤ n + 1 := Nat.le_of_eq (HR.out ds[q] (List.getElem_mem hqd))
              have lq2 : n + 1 ≤ ds[q].length := Nat.le_of_eq (HR.out ds[q] (List.getElem_mem hqd)).symm
              have hqq : q < ds[q].length := Nat.lt_of_lt_of_le (Nat.lt_succ_of_lt hlt2) lq2
              have hqn : n < ds[q].length := lq2
              have hqb : b.length < ds[q].length := Nat.lt_of_le_of_lt hb1 lq2
              obtain ⟨bq, oq, rfl, hbq, haq, haq'⟩ := (hvq.toView sR_v).atR hqq
              obtain ⟨bq2, oq2, e2, _, haz, haz'⟩ := (hvq.toView sR_v).atR hqb
              injection e2 with e2
              injection e2 with e2 e2'
              subst e2 e2'
              obtain ⟨od, hod⟩ : ∃ o, divR ds[q][b.length] ds[q][q] = o := ⟨_, rfl⟩
              have HD := Lib.hid hod
              have HO2 : Hid (divR (gq (gr ds q) n) (gq (gr ds q) q) = od) := Lib.hid (by
                rw [gr_at hqd, gq_at hqn, gq_at hqq, ← hod]
                congr 1
                simp only [HB.out])
              clear hod hvq hSq
              go_wp2_with fail
              go_upto_region 28 with fail
              go_cut [14, 15] (fun vA vB wx => ∃ b, vA = .pointer (some ⟨b, 0, none⟩) ∧ vB = .bool (od).isSome ∧ BoxAt wx b #[.int .i64 ((od).getD (0, 0)).1, .int .i64 ((od).getD (0, 0)).2] ∧ wr.heap.size ≤ b ∧ ∃ y, wx = ext wr y)
              case first =>
                go_region_held3 (fun w' => (∀ a : Addr, a.block < wr.heap.size → w'.cell? a = wr.cell? a) ∧ ∃ y, w' = ext wr y) (first | exact heldE (by refine x'z ?_; repeat (with_reducible (first | exact x'a _ _ | exact x'b _ | exact x'c (by assumption) | refine x'd ?_ (by assumption) | refine x'e ?_ _ | refine x'f ?_ _ | refine x'g ?_ | refine x'h ?_ ?_ _ | refine x'i ?_ _ | refine x'j ?_ | refine x'k ?_ _ | refine x'l ?_ _ _ | refine x'm ?_ | assumption | (refine x'n ?_; omega) | omega)))) (first | (go_at_call 47; refine (specDivRational_any).mono ?_; rintro e w3 ⟨rfl, hxw3⟩; rw [HD.out]; try (obtain ⟨_, l4, b4, b4', f4⟩ := box2 (BoxAt.toExt (BoxAt.new wr _ _).drew hxw3))))
                all_goals
                  go_wp2_with fail
                  go_meet
                  (first | exact ⟨wr.heap.size, rfl, rfl, (by (repeat (with_reducible (first | assumption | exact BoxAt.new _ _ _ | apply BoxAt.set2 | refine BoxAt.set2' ?_ (by omega) | apply BoxAt.setP0 | apply BoxAt.setP1 | refine BoxAt.setO ?_ (by omega) | refine BoxAt.alloc ?_ _ | refine BoxAt.drew ?_ | refine BoxAt.toExt ?_ (by assumption)))); done), Nat.le_refl _, (by refine x'z ?_; repeat (with_reducible (first | exact x'a _ _ | exact x'b _ | exact x'c (by assumption) | refine x'd ?_ (by assumption) | refine x'e ?_ _ | refine x'f ?_ _ | refine x'g ?_ | refine x'h ?_ ?_ _ | refine x'i ?_ _ | refine x'j ?_ | refine x'k ?_ _ | refine x'l ?_ _ _ | refine x'm ?_ | assumption | (refine x'n ?_; omega) | omega)))⟩ | exact ⟨w3.heap.size, rfl, rfl, (by (repeat (with_reducible (first | assumption | exact BoxAt.new _ _ _ | apply BoxAt.set2 | refine BoxAt.set2' ?_ (by omega) | apply BoxAt.setP0 | apply BoxAt.setP1 | refine BoxAt.setO ?_ (by omega) | refine BoxAt.alloc ?_ _ | refine BoxAt.drew ?_ | refine BoxAt.toExt ?_ (by assumption)))); done), size_of_ext (by refine x'z ?_; repeat (with_reducible (first | exact x'a _ _ | exact x'b _ | exact x'c (by assumption) | refine x'd ?_ (by assumption) | refine x'e ?_ _ | refine x'f ?_ _ | refine x'g ?_ | refine x'h ?_ ?_ _ | refine x'i ?_ _ | refine x'j ?_ | refine x'k ?_ _ | refine x'l ?_ _ _ | refine x'm ?_ | assumption | (refine x'n ?_; omega) | omega))), (by refine x'z ?_; repeat (with_reducible (first | exact x'a _ _ | exact x'b _ | exact x'c (by assumption) | refine x'd ?_ (by assumption) | refine x'e ?_ _ | refine x'f ?_ _ | refine x'g ?_ | refine x'h ?_ ?_ _ | refine x'i ?_ _ | refine x'j ?_ | refine x'k ?_ _ | refine x'l ?_ _ _ | refine x'm ?_ | assumption | (refine x'n ?_; omega) | omega)))⟩)
              obtain ⟨b15, rfl, rfl, Bb15, hb15, xW1⟩ := hcut
              obtain ⟨W1, rfl⟩ : ∃ W, W = wc := ⟨_, rfl⟩
              have HY3 := Lib.hid (trans_ext HY2.out xW1)
              have HO3 := Lib.hid (HO.out.toExt xW1)
              have hz2 := size_of_ext HY2.out
              have hz3 := size_of_ext xW1
              clear hcq hbq haq haq' haz haz' hgw
              cases od with
              | none =>
                have HE4 := Lib.hid (show solR a b = none by rw [HM.out, ← Hj2.out, outS_none hlt2 HO2.out])
                go_wp2_with fail
                go_ret2
                exact ⟨_, [W1.heap.size], by rw [HE4.out]; rfl, trans_ext HY.out (trans_ext HY3.out (alloc_ext _ _)), by rw [HE4.out]; exact SV.empty _, fun x hx => by rw [List.mem_singleton.1 hx]; exact size_of_ext (trans_ext HY.out HY3.out)⟩
              | some x =>
                simp only [Option.getD_some, Option.isSome_some] at Bb15 ⊢
                obtain ⟨_, l15, c15, c15', f15⟩ := box2 Bb15
                have HJ3 := Lib.hid ((outS_go (out := out) hlt2 HO2.out).symm.trans Hj2.out)
                have HGO := Lib.hid HG.out
                clear Bb15 HO HD
                go_wp2_with (at_builtin; refine wpList_app1 (E := sR) (d := x) rfl _ _ _ rfl tR rfl rfl rfl (by simp) (fun _ => ⟨rfl, rfl⟩) rfl (by simp [Value.oneCell']) HO3.out (by omega) (by omega) ?_; intro v6 w6 F6 hS6 hC6 hF6)
                exact ⟨⟨q + 1, out ++ [x], F6, by go_num, hlt2, by simp; omega, hS6, fun b hb => by
                  rcases hF6 b hb with h | h
                  · exact HGO.out b h
                  · omega, hC6.isExt HY3.out HGO.out, HJ3⟩, mea hlt2⟩
            · have ej := Hj2.out
              rw [outS_end hlt2] at ej
              have HM2 := Lib.hid (HM.out.trans ej.symm)
              clear ej
              go_wp2
              go_ret2
              exact ⟨_, G, by rw [HM2.out]; rfl, trans_ext HY.out HY2.out, by rw [HM2.out]; exact HO.out, fun x hx => Nat.le_trans (size_of_ext HY.out) (HG.out x hx)⟩
end Go.Proofs.Ytbjpkfgkmilkdaa
