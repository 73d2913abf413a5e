/- Contracts of functions that the statement reaches. -/
import Derived.Deep.DeepCutAuto
import Derived.Test.YtbjpkfgkmilkdaaL05
import Derived.Test.YtbjpkfgkmilkdaaL06
namespace Go.Proofs.Ytbjpkfgkmilkdaa
open Go.RowKit
section
variable {te te2 : Nat} {w : World} {g n c p k : Nat} {ds : List (List Q2)} {cur piv : List Q2} {F : List Nat}
theorem two_rows (h : SV te 1 (sSl te2 2 sR) w (.slice (some ⟨g, 0, none⟩) n c) ds F) (hN : F.Nodup) (hp : p < ds.length) (hk : k < ds.length) (hne : k ≠ p) :
    ∃ Ap cp Ak ck Gp Gk, w.cell? ⟨g, p, none⟩ = some (.slice Ap ds[p].length cp) ∧ w.cell? ⟨g, k, none⟩ = some (.slice Ak ds[k].length ck) ∧ SV te2 2 sR w (.slice Ap ds[p].length cp) ds[p] Gp ∧ SV te2 2 sR w (.slice Ak ds[k].length ck) ds[k] Gk ∧ (∀ b ∈ Gp, b ∉ Gk) ∧ (∀ b ∈ Gk, b ∈ F) ∧ g ∉ Gk ∧ g < w.heap.size ∧ g ∈ F := by
  obtain ⟨vp, vk, Gp, Gk, h1, h2, ⟨up, e3, h3⟩, ⟨uk, e4, h4⟩, h5, h6, h7, h8, h9⟩ := h.apart hN hp hk hne
  injection e3 with e3
  injection e4 with e4
  subst e3 e4
  obtain ⟨Ap, cp, rfl, _, _⟩ := h3.form
  obtain ⟨Ak, ck, rfl, _, _⟩ := h4.form
  obtain ⟨rfl, vs, Fs, _, _, rfl, _, _, _, _, hg⟩ := h.ix
  exact ⟨Ap, cp, Ak, ck, Gp, Gk, h1, h2, h3, h4, h5, h7, h9, hg, by simp⟩
theorem set_rows (h : SV te 1 (sSl te2 2 sR) w (.slice (some ⟨g, 0, none⟩) n c) (ds.set k cur) F) (hN : F.Nodup) (hp : p < ds.length) (hk : k < ds.length) (hne : k ≠ p) :
    ∃ Ap cp Ak ck Gp Gk, w.cell? ⟨g, p, none⟩ = some (.slice Ap ds[p].length cp) ∧ w.cell? ⟨g, k, none⟩ = some (.slice Ak cur.length ck) ∧ SV te2 2 sR w (.slice Ap ds[p].length cp) ds[p] Gp ∧ SV te2 2 sR w (.slice Ak cur.length ck) cur Gk ∧ (∀ b ∈ Gk, b ∈ F) ∧ g ∉ Gk ∧ g < w.heap.size ∧ g ∈ F ∧
      ∀ w' d', SV te2 2 sR w' (.slice Ak cur.length ck) d' Gk → Chg Gk w w' → SV te 1 (sSl te2 2 sR) w' (.slice (some ⟨g, 0, none⟩) n c) (ds.set k d') F := by
  have hk' : k < (ds.set k cur).length := by simpa using hk
  have hp' : p < (ds.set k cur).length := by simpa using hp
  have ek : (ds.set k cur)[k] = cur := by simp
  have ep : (ds.set k cur)[p] = ds[p] := by simp [hne]
  obtain ⟨Ap, cp, Ak, ck, Gp, Gk, h1, h2, h3, h4, h5, h6, h7, h8, h9⟩ := two_rows (te2 := te2) h hN hp' hk' hne
  obtain ⟨v, Fk, _, k1, _, k2, _, _, _, _, k3, _⟩ := h.row hN hk'
  rw [h2] at k1
  injection k1 with k1
  subst k1
  have eF : Fk = Gk := k2.plainF.trans h4.plainF.symm
  subst eF
  rw [ek] at h2 h4 k3
  rw [ep] at h1 h3
  refine ⟨Ap, cp, Ak, ck, Gp, Fk, h1, h2, h3, h4, h6, h7, h8, h9, fun w' d' a b => ?_⟩
  have := k3 w' d' a b
  rwa [List.set_set] at this
end
def InT (n1 p k2 : Nat) (piv row cur : List Q2) (od : Option Q2) (t : Bool) : Prop := if t = true then od.isSome = true ∧ elimS (od.getD (0, 0)) piv (n1 - k2) k2 cur = elimR p piv row else elimR p piv row = none
theorem InT_start {n1 p : Nat} {piv row : List Q2} {od : Option Q2} (h : elimR p piv row = elimO p piv row od) (hl : row.length = n1) : InT n1 p p piv row row od od.isSome := by
  unfold InT
  rw [h]
  cases od with
  | none => rfl
  | some f => subst hl; exact ⟨rfl, rfl⟩
theorem InT_f {n1 p k2 : Nat} {piv row cur : List Q2} {od : Option Q2} (h : InT n1 p k2 piv row cur od false) : elimR p piv row = none := by simpa [InT] using h
theorem InT_t {n1 p k2 : Nat} {piv row cur : List Q2} {od : Option Q2} (h : InT n1 p k2 piv row cur od true) : elimS (od.getD (0, 0)) piv (n1 - k2) k2 cur = elimR p piv row := by
  have : od.isSome = true ∧ elimS (od.getD (0, 0)) piv (n1 - k2) k2 cur = elimR p piv row := by simpa [InT] using h
  exact this.2
theorem InT_none {n1 p k2 k3 : Nat} {piv row cur cur' : List Q2} {od : Option Q2} (h : InT n1 p k2 piv row cur od true) (hs : elimS (od.getD (0, 0)) piv (n1 - k2) k2 cur = none) : InT n1 p k3 piv row cur' od false := by
  have := InT_t h
  simp [InT]
  rw [← this, hs]
theorem InT_go {n1 p k2 : Nat} {piv row cur cur' : List Q2} {od : Option Q2} (h : InT n1 p k2 piv row cur od true) (hs : elimS (od.getD (0, 0)) piv (n1 - k2) k2 cur = elimS (od.getD (0, 0)) piv (n1 - (k2 + 1)) (k2 + 1) cur') : InT n1 p (k2 + 1) piv row cur' od true := by
  have h1 : od.isSome = true ∧ elimS (od.getD (0, 0)) piv (n1 - k2) k2 cur = elimR p piv row := by simpa [InT] using h
  simp only [InT, if_pos]
  exact ⟨h1.1, by rw [← hs]; exact h1.2⟩
def StP (te te2 : Nat) (w : World) (v : Value) (F : List Nat) (o : Option (List (List Q2))) (e : Ending) (w' : World) : Prop := e = .returned (.bool o.isSome) ∧ Chg F w w' ∧ ∀ r, o = some r → SV te 1 (sSl te2 2 sR) w' v r F
set_option maxRecDepth 100000 in
set_option maxHeartbeats 16000000 in
theorem l13Step_any {g c p n1 : Nat} {m : List (List Q2)} {F : List Nat} {w : World} (hS : SV 26 1 (sSl 67 2 sR) w (.slice (some ⟨g, 0, none⟩) m.length c) m F) (hN : F.Nodup) (hm : m.length ≤ 1000) (hr : ∀ r ∈ m, r.length = n1) (hp : p < m.length) (hp1 : p < n1) (hn1 : n1 ≤ 1000) :
    Calls Try.prog 46 #[.slice (some ⟨g, 0, none⟩) m.length c, .int .i64 p] w (StP 26 67 w (.slice (some ⟨g, 0, none⟩) m.length c) F (stepS p m.length 0 m)) := by
  have HN := Lib.hid hN
  have HR := Lib.hid hr
  clear hN hr
  go_enter Try.func46, Try.ntmps46
  go_wp2
  go_loopw [5] (fun i wr => ∃ (k : Nat) (ds : List (List Q2)), i = .int .i64 k ∧ k ≤ m.length ∧ ds.length ≤ m.length ∧ m.length ≤ ds.length ∧ Hid (∀ r ∈ ds, r.length = n1) ∧ SV 26 1 (sSl 67 2 sR) wr (.slice (some ⟨g, 0, none⟩) m.length c) ds F ∧ Chg F w wr ∧ Hid (stepS p (m.length - k) k ds = stepS p m.length 0 m)) (fun i _ => m.length - (intOf i).toNat)
  case atStart => exact ⟨0, m, rfl, by omega, by omega, by omega, HR, hS, Chg.refl F w, Lib.hid rfl⟩
  case round =>
    clear hS HR
    obtain ⟨k, ds, rfl, hk, hd1, hd2, HR, hSr, hC, Hj⟩ := hrel
    have HC := Lib.hid hC
    have HS := Lib.hid hSr
    clear hC
    by_cases hlt : k < m.length
    · have hkd : k < ds.length := by omega
      have hpd : p < ds.length := by omega
      by_cases hkp : k = p
      · have q1 : ((k : Int) == (p : Int)) = true := by simp [hkp]
        have HJ := Lib.hid ((stepS_skip hlt (.inl hkp)).symm.trans Hj.out)
        clear hkp
        go_wp2
        exact ⟨⟨k + 1, ds, by go_num, by omega, by omega, by omega, HR, HS.out, HC.out, HJ⟩, by simp [intOf]; omega⟩
      · have q1 : ((k : Int) == (p : Int)) = false := by rw [beq_eq_false_iff_ne]; omega
        obtain ⟨Ap, cp, Ak, ck, Gp, Gk, hcp, hck, hvp, hvk, _, _, _, hgw, hgF⟩ := two_rows hSr HN.out hpd hkd hkp
        have lp1 : ds[p].length ≤ n1 := Nat.le_of_eq (HR.out ds[p] (List.getElem_mem hpd))
        have lp2 : n1 ≤ ds[p].length := Nat.le_of_eq (HR.out ds[p] (List.getElem_mem hpd)).symm
        have lk1 : ds[k].length ≤ n1 := Nat.le_of_eq (HR.out ds[k] (List.getElem_mem hkd))
        have lk2 : n1 ≤ ds[k].length := Nat.le_of_eq (HR.out ds[k] (List.getElem_mem hkd)).symm
        have hpp : p < ds[p].length := by omega
        have hpk : p < ds[k].length := by omega
        obtain ⟨bp, op, rfl, hbp, hap, hap'⟩ := (hvp.toView sR_v).atR hpp
        obtain ⟨bk, ok, rfl, hbk, hak, hak'⟩ := (hvk.toView sR_v).atR hpk
        clear hvp hvk hSr
        by_cases hz : ds[k][p].1 = 0
        · have q2 : (ds[k][p].1 == 0) = true := by simp [hz]
          have HJ := Lib.hid ((stepS_skip hlt (.inr (by rw [gr_at hkd, gq_at hpk]; exact hz))).symm.trans Hj.out)
          clear hkp hz
          go_wp2
          exact ⟨⟨k + 1, ds, by go_num, by omega, by omega, by omega, HR, HS.out, HC.out, HJ⟩, by simp [intOf]; omega⟩
        · have q2 : (ds[k][p].1 == 0) = false := by simp [hz]
          obtain ⟨od, hod⟩ : ∃ o, divR ds[k][p] ds[p][p] = o := ⟨_, rfl⟩
          have HD := Lib.hid hod
          have HE := Lib.hid (show elimR p ds[p] ds[k] = elimO p ds[p] ds[k] od by unfold elimR; rw [gq_at hpk, gq_at hpp, hod])
          have HK := Lib.hid hkp
          have HZ := Lib.hid hz
          clear hod hkp hz
          go_upto_region 5 with fail
          go_cut [6, 7] (fun vA vB wx => ∃ b, vA = .pointer (some ⟨b, 0, none⟩) ∧ vB = .bool (od).isSome ∧ BoxAt wx b #[.int .i64 ((od).getD (0, 0)).1, .int .i64 ((od).getD (0, 0)).2] ∧ wr.heap.size ≤ b ∧ ∃ y, wx = ext wr y)
          case first =>
            go_region_held3 (fun w' => (∀ a : Addr, a.block < wr.heap.size → w'.cell? a = wr.cell? a) ∧ ∃ y, w' = ext wr y) (first | exact heldE (by refine x'z ?_; repeat (with_reducible (first | exact x'a _ _ | exact x'b _ | exact x'c (by assumption) | refine x'd ?_ (by assumption) | refine x'e ?_ _ | refine x'f ?_ _ | refine x'g ?_ | refine x'h ?_ ?_ _ | refine x'i ?_ _ | refine x'j ?_ | refine x'k ?_ _ | refine x'l ?_ _ _ | refine x'm ?_ | assumption | (refine x'n ?_; omega) | omega)))) (first | (go_at_call 47; refine (specDivRational_any).mono ?_; rintro e w2 ⟨rfl, hxw2⟩; rw [HD.out]; try (obtain ⟨_, l4, b4, b4', f4⟩ := box2 (BoxAt.toExt (BoxAt.new wr _ _).drew hxw2))))
            all_goals
              go_wp2_with fail
              go_meet
              (first | exact ⟨wr.heap.size, rfl, rfl, (by (repeat (with_reducible (first | assumption | exact BoxAt.new _ _ _ | apply BoxAt.set2 | refine BoxAt.set2' ?_ (by omega) | apply BoxAt.setP0 | apply BoxAt.setP1 | refine BoxAt.setO ?_ (by omega) | refine BoxAt.alloc ?_ _ | refine BoxAt.drew ?_ | refine BoxAt.toExt ?_ (by assumption)))); done), Nat.le_refl _, (by refine x'z ?_; repeat (with_reducible (first | exact x'a _ _ | exact x'b _ | exact x'c (by assumption) | refine x'd ?_ (by assumption) | refine x'e ?_ _ | refine x'f ?_ _ | refine x'g ?_ | refine x'h ?_ ?_ _ | refine x'i ?_ _ | refine x'j ?_ | refine x'k ?_ _ | refine x'l ?_ _ _ | refine x'm ?_ | assumption | (refine x'n ?_; omega) | omega)))⟩ | exact ⟨w2.heap.size, rfl, rfl, (by (repeat (with_reducible (first | assumption | exact BoxAt.new _ _ _ | apply BoxAt.set2 | refine BoxAt.set2' ?_ (by omega) | apply BoxAt.setP0 | apply BoxAt.setP1 | refine BoxAt.setO ?_ (by omega) | refine BoxAt.alloc ?_ _ | refine BoxAt.drew ?_ | refine BoxAt.toExt ?_ (by assumption)))); done), size_of_ext (by refine x'z ?_; repeat (with_reducible (first | exact x'a _ _ | exact x'b _ | exact x'c (by assumption) | refine x'd ?_ (by assumption) | refine x'e ?_ _ | refine x'f ?_ _ | refine x'g ?_ | refine x'h ?_ ?_ _ | refine x'i ?_ _ | refine x'j ?_ | refine x'k ?_ _ | refine x'l ?_ _ _ | refine x'm ?_ | assumption | (refine x'n ?_; omega) | omega))), (by refine x'z ?_; repeat (with_reducible (first | exact x'a _ _ | exact x'b _ | exact x'c (by assumption) | refine x'd ?_ (by assumption) | refine x'e ?_ _ | refine x'f ?_ _ | refine x'g ?_ | refine x'h ?_ ?_ _ | refine x'i ?_ _ | refine x'j ?_ | refine x'k ?_ _ | refine x'l ?_ _ _ | refine x'm ?_ | assumption | (refine x'n ?_; omega) | omega)))⟩)
          obtain ⟨b6, rfl, rfl, Bb6, hb6, xW⟩ := hcut
          obtain ⟨W, rfl⟩ : ∃ W, W = wc := ⟨_, rfl⟩
          have HS0 := Lib.hid (HS.out.toExt xW)
          have HC0 := Lib.hid (HC.out.trans0 xW)
          have HI := Lib.hid (InT_start HE.out (HR.out ds[k] (List.getElem_mem hkd)))
          clear hcp hbp hap hap' hck hbk hak hak' xW hgw q2
          go_wp2
          go_loopw [7, 8] (fun v i vs => ∃ (k2 : Nat) (t : Bool) (cur : List Q2), v = .bool t ∧ i = .int .i64 k2 ∧ k2 ≤ n1 ∧ cur.length ≤ n1 ∧ n1 ≤ cur.length ∧ SV 26 1 (sSl 67 2 sR) vs (.slice (some ⟨g, 0, none⟩) m.length c) (ds.set k cur) F ∧ BoxAt vs b6 #[.int .i64 (od.getD (0, 0)).1, .int .i64 (od.getD (0, 0)).2] ∧ Chg F W vs ∧ Hid (InT n1 p k2 ds[p] ds[k] cur od t)) (fun _ i _ => n1 - (intOf i).toNat)
          case atStart => exact ⟨p, od.isSome, ds[k], rfl, rfl, by omega, lk1, lk2, by rw [List.set_getElem_self]; exact HS0.out, Bb6, Chg.refl F W, HI⟩
          case round =>
            clear Bb6
            obtain ⟨k2, t, cur, rfl, rfl, hk2, hc1, hc2, hSr, B6, hC2, HI⟩ := hrel
            obtain ⟨Ap, cp, Ak, ck, Gp, Gk, hcp, hck, hvp, hvk, _, _, hgw, _, _⟩ := set_rows (te2 := 67) hSr HN.out hpd hkd HK.out
            have HS2 := Lib.hid hSr
            have HC2 := Lib.hid hC2
            clear hSr hC2
            by_cases hgo : t = true ∧ k2 < n1
            · obtain ⟨rfl, hlt2⟩ := hgo
              have k2p : k2 < ds[p].length := by omega
              have k2k : k2 < cur.length := by omega
              obtain ⟨bp, op, rfl, hbp, hap, hap'⟩ := (hvp.toView sR_v).atR k2p
              obtain ⟨_, l6, c6, c6', f6⟩ := box2 B6
              obtain ⟨om, hom⟩ : ∃ o, mulR (od.getD (0, 0)) ds[p][k2] = o := ⟨_, rfl⟩
              obtain ⟨os, hos⟩ : ∃ o, subR cur[k2] (om.getD (0, 0)) = o := ⟨_, rfl⟩
              have HM := Lib.hid hom
              have HO := Lib.hid hos
              have HB6 := Lib.hid B6
              clear hvp hvk hom hos B6
              go_wp2_with fail
              go_upto_region 9 with fail
              go_cut [9, 10] (fun vA vB wx => ∃ b, vA = .pointer (some ⟨b, 0, none⟩) ∧ vB = .bool (om).isSome ∧ BoxAt wx b #[.int .i64 ((om).getD (0, 0)).1, .int .i64 ((om).getD (0, 0)).2] ∧ wr.heap.size ≤ b ∧ ∃ y, wx = ext wr y)
              case first =>
                go_region_held3 (fun w' => (∀ a : Addr, a.block < wr.heap.size → w'.cell? a = wr.cell? a) ∧ ∃ y, w' = ext wr y) (first | exact heldE (by refine x'z ?_; repeat (with_reducible (first | exact x'a _ _ | exact x'b _ | exact x'c (by assumption) | refine x'd ?_ (by assumption) | refine x'e ?_ _ | refine x'f ?_ _ | refine x'g ?_ | refine x'h ?_ ?_ _ | refine x'i ?_ _ | refine x'j ?_ | refine x'k ?_ _ | refine x'l ?_ _ _ | refine x'm ?_ | assumption | (refine x'n ?_; omega) | omega)))) (first | (go_at_call 88; refine (specMulRational_any).mono ?_; rintro e w3 ⟨rfl, hxw3⟩; rw [HM.out]; try (obtain ⟨_, l4, b4, b4', f4⟩ := box2 (BoxAt.toExt (BoxAt.new wr _ _).drew hxw3))))
                all_goals
                  go_wp2_with fail
                  go_meet
                  (first | exact ⟨wr.heap.size, rfl, rfl, (by (repeat (with_reducible (first | assumption | exact BoxAt.new _ _ _ | apply BoxAt.set2 | refine BoxAt.set2' ?_ (by omega) | apply BoxAt.setP0 | apply BoxAt.setP1 | refine BoxAt.setO ?_ (by omega) | refine BoxAt.alloc ?_ _ | refine BoxAt.drew ?_ | refine BoxAt.toExt ?_ (by assumption)))); done), Nat.le_refl _, (by refine x'z ?_; repeat (with_reducible (first | exact x'a _ _ | exact x'b _ | exact x'c (by assumption) | refine x'd ?_ (by assumption) | refine x'e ?_ _ | refine x'f ?_ _ | refine x'g ?_ | refine x'h ?_ ?_ _ | refine x'i ?_ _ | refine x'j ?_ | refine x'k ?_ _ | refine x'l ?_ _ _ | refine x'm ?_ | assumption | (refine x'n ?_; omega) | omega)))⟩ | exact ⟨w3.heap.size, rfl, rfl, (by (repeat (with_reducible (first | assumption | exact BoxAt.new _ _ _ | apply BoxAt.set2 | refine BoxAt.set2' ?_ (by omega) | apply BoxAt.setP0 | apply BoxAt.setP1 | refine BoxAt.setO ?_ (by omega) | refine BoxAt.alloc ?_ _ | refine BoxAt.drew ?_ | refine BoxAt.toExt ?_ (by assumption)))); done), size_of_ext (by refine x'z ?_; repeat (with_reducible (first | exact x'a _ _ | exact x'b _ | exact x'c (by assumption) | refine x'd ?_ (by assumption) | refine x'e ?_ _ | refine x'f ?_ _ | refine x'g ?_ | refine x'h ?_ ?_ _ | refine x'i ?_ _ | refine x'j ?_ | refine x'k ?_ _ | refine x'l ?_ _ _ | refine x'm ?_ | assumption | (refine x'n ?_; omega) | omega))), (by refine x'z ?_; repeat (with_reducible (first | exact x'a _ _ | exact x'b _ | exact x'c (by assumption) | refine x'd ?_ (by assumption) | refine x'e ?_ _ | refine x'f ?_ _ | refine x'g ?_ | refine x'h ?_ ?_ _ | refine x'i ?_ _ | refine x'j ?_ | refine x'k ?_ _ | refine x'l ?_ _ _ | refine x'm ?_ | assumption | (refine x'n ?_; omega) | omega)))⟩)
              obtain ⟨b9, rfl, rfl, Bb9, hb9, xW1⟩ := hcut
              obtain ⟨W1, rfl⟩ : ∃ W, W = wc := ⟨_, rfl⟩
              have HS3 := Lib.hid (HS2.out.toExt xW1)
              obtain ⟨_, _, Ak3, ck3, _, Gk3, _, hck3, _, hvk3, _, _, hgw3, _, _⟩ := set_rows (te2 := 67) HS3.out HN.out hpd hkd HK.out
              obtain ⟨bk, ok, rfl, hbk, hak, hak'⟩ := (hvk3.toView sR_v).atR k2k
              obtain ⟨_, l9, c9, c9', f9⟩ := box2 Bb9
              have HB63 := Lib.hid (HB6.out.toExt xW1)
              have HC3 := Lib.hid (HC2.out.trans0 xW1)
              clear hcp hck hgw hbp hap hap' l6 c6 c6' f6 hvk3 xW1 Bb9
              go_wp2_with fail
              go_upto_region 10 with fail
              go_cut [11, 12] (fun vA vB wx => ∃ b, vA = .pointer (some ⟨b, 0, none⟩) ∧ vB = .bool (os).isSome ∧ BoxAt wx b #[.int .i64 ((os).getD (0, 0)).1, .int .i64 ((os).getD (0, 0)).2] ∧ W1.heap.size ≤ b ∧ ∃ y, wx = ext W1 y)
              case first =>
                go_region_held3 (fun w' => (∀ a : Addr, a.block < W1.heap.size → w'.cell? a = W1.cell? a) ∧ ∃ y, w' = ext W1 y) (first | exact heldE (by refine x'z ?_; repeat (with_reducible (first | exact x'a _ _ | exact x'b _ | exact x'c (by assumption) | refine x'd ?_ (by assumption) | refine x'e ?_ _ | refine x'f ?_ _ | refine x'g ?_ | refine x'h ?_ ?_ _ | refine x'i ?_ _ | refine x'j ?_ | refine x'k ?_ _ | refine x'l ?_ _ _ | refine x'm ?_ | assumption | (refine x'n ?_; omega) | omega)))) (first | (go_at_call 89; refine (specSubRational_any).mono ?_; rintro e w4 ⟨rfl, hxw4⟩; rw [HO.out]; try (obtain ⟨_, l4, b4, b4', f4⟩ := box2 (BoxAt.toExt (BoxAt.new W1 _ _).drew hxw4))))
                all_goals
                  go_wp2_with fail
                  go_meet
                  (first | exact ⟨W1.heap.size, rfl, rfl, (by (repeat (with_reducible (first | assumption | exact BoxAt.new _ _ _ | apply BoxAt.set2 | refine BoxAt.set2' ?_ (by omega) | apply BoxAt.setP0 | apply BoxAt.setP1 | refine BoxAt.setO ?_ (by omega) | refine BoxAt.alloc ?_ _ | refine BoxAt.drew ?_ | refine BoxAt.toExt ?_ (by assumption)))); done), Nat.le_refl _, (by refine x'z ?_; repeat (with_reducible (first | exact x'a _ _ | exact x'b _ | exact x'c (by assumption) | refine x'd ?_ (by assumption) | refine x'e ?_ _ | refine x'f ?_ _ | refine x'g ?_ | refine x'h ?_ ?_ _ | refine x'i ?_ _ | refine x'j ?_ | refine x'k ?_ _ | refine x'l ?_ _ _ | refine x'm ?_ | assumption | (refine x'n ?_; omega) | omega)))⟩ | exact ⟨w4.heap.size, rfl, rfl, (by (repeat (with_reducible (first | assumption | exact BoxAt.new _ _ _ | apply BoxAt.set2 | refine BoxAt.set2' ?_ (by omega) | apply BoxAt.setP0 | apply BoxAt.setP1 | refine BoxAt.setO ?_ (by omega) | refine BoxAt.alloc ?_ _ | refine BoxAt.drew ?_ | refine BoxAt.toExt ?_ (by assumption)))); done), size_of_ext (by refine x'z ?_; repeat (with_reducible (first | exact x'a _ _ | exact x'b _ | exact x'c (by assumption) | refine x'd ?_ (by assumption) | refine x'e ?_ _ | refine x'f ?_ _ | refine x'g ?_ | refine x'h ?_ ?_ _ | refine x'i ?_ _ | refine x'j ?_ | refine x'k ?_ _ | refine x'l ?_ _ _ | refine x'm ?_ | assumption | (refine x'n ?_; omega) | omega))), (by refine x'z ?_; repeat (with_reducible (first | exact x'a _ _ | exact x'b _ | exact x'c (by assumption) | refine x'd ?_ (by assumption) | refine x'e ?_ _ | refine x'f ?_ _ | refine x'g ?_ | refine x'h ?_ ?_ _ | refine x'i ?_ _ | refine x'j ?_ | refine x'k ?_ _ | refine x'l ?_ _ _ | refine x'm ?_ | assumption | (refine x'n ?_; omega) | omega)))⟩)
              obtain ⟨b11, rfl, rfl, Bb11, hb11, xW2⟩ := hcut
              obtain ⟨W2, rfl⟩ : ∃ W, W = wc := ⟨_, rfl⟩
              have HS4 := Lib.hid (HS3.out.toExt xW2)
              obtain ⟨_, _, Ak4, ck4, _, Gk4, _, hck4, _, hvk4, hkF4, hgk4, hgw4, _, hupd⟩ := set_rows (te2 := 67) HS4.out HN.out hpd hkd HK.out
              obtain ⟨gk, _, e4, hgk, _, _⟩ := hvk4.block (by intro e; rw [e] at k2k; simp at k2k)
              injection e4 with e4 _ _
              subst e4
              have hwF := HS3.out.lt gk (hkF4 gk hgk)
              have n1' : gk ≠ g := fun e => hgk4 (e ▸ hgk)
              have n2' : g ≠ gk := fun e => n1' e.symm
              have n3' : b11 ≠ gk := by omega
              have n4' : gk ≠ b11 := by omega
              obtain ⟨_, l11, c11, c11', f11⟩ := box2 Bb11
              obtain ⟨⟨_, i0⟩, i1, i2⟩ := hvk4.cell rfl (j := k2 * 2) (by omega)
              obtain ⟨⟨_, i3⟩, i4, _⟩ := hvk4.cell rfl (j := k2 * 2 + 1) (by omega)
              obtain ⟨hI5, hC50⟩ := (hvk4.toExt (drew_ext W2)).set2 rfl k2k (u := .int .i64 (os.getD (0, 0)).1) (v := .int .i64 (os.getD (0, 0)).2) (d := os.getD (0, 0)) (fun _ => ⟨rfl, rfl⟩)
              have hC5 := (Chg.ofExt (F := [gk]) (drew_ext W2)).trans hC50 (fun x hx => .inl hx)
              have hS5 := hupd _ _ hI5 (hC5.mono (fun x hx => .inl (by rw [List.mem_singleton.1 hx]; exact hgk)))
              have hb6g : b6 ∉ [gk] := fun h => by have := HS.out.lt gk (hkF4 gk hgk); rw [List.mem_singleton.1 h] at hb6; omega
              have HB65 := Lib.hid ((HB63.out.toExt xW2).chg hC5 hb6g)
              have HC5 := Lib.hid ((HC3.out.trans0 xW2).trans hC5 (fun x hx => .inl (by rw [List.mem_singleton.1 hx]; exact hkF4 gk hgk)))
              have HS5 := Lib.hid hS5
              have HT : Hid (InT n1 p (k2 + 1) ds[p] ds[k] (cur.set k2 (os.getD (0, 0))) od (om.isSome && os.isSome)) := Lib.hid (by
                cases om with
                | none => exact InT_none HI.out (elimS_mul0 hlt2 (by rw [gq_at k2p]; exact HM.out))
                | some x =>
                  cases os with
                  | none => exact InT_none HI.out (elimS_sub0 hlt2 (by rw [gq_at k2p]; exact HM.out) (by rw [gq_at k2k]; exact HO.out))
                  | some y => exact InT_go HI.out (elimS_go hlt2 (by rw [gq_at k2p]; exact HM.out) (by rw [gq_at k2k]; exact HO.out)))
              clear hck3 hbk hak hak' l9 c9 c9' f9 hgw3 hvk4 hupd hI5 hC5 hC50 hS5 xW2 Bb11 hwF
              generalize om.isSome = t1 at *
              generalize os.isSome = t2 at *
              cases t1 <;> cases t2
              all_goals
                go_wp2_with fail
                go_region_held3 (fun w' => w'.cell? ⟨g, k, none⟩ = some (.slice (some ⟨gk, 0, none⟩) cur.length ck4) ∧ w'.cell? ⟨b11, 0, none⟩ = some (.int .i64 (os.getD (0, 0)).1) ∧ w'.cell? ⟨b11, 1, none⟩ = some (.int .i64 (os.getD (0, 0)).2)) (go_keep) (fail)
                go_wp2
                exact ⟨⟨k2 + 1, _, cur.set k2 (os.getD (0, 0)), rfl, by go_num, by omega, by simp; omega, by simp; omega, HS5.out, HB65.out, HC5.out, HT⟩, by simp [intOf]; omega⟩
            · cases t with
              | false =>
                have HT := Lib.hid (show stepS p m.length 0 m = none by rw [← Hj.out]; exact stepS_none hlt (by rw [gr_at hkd, gq_at hpk]; exact fun h => h.elim HK.out HZ.out) (by rw [gr_at hkd, gr_at hpd]; exact InT_f HI.out))
                have HCC := Lib.hid (HC0.out.trans HC2.out (fun x hx => .inl hx))
                clear hgo hvp hvk
                by_cases hlt2 : k2 < n1
                · have q3 : k2 < cur.length := by omega
                  go_wp2
                  go_ret
                  exact ⟨by rw [HT.out]; rfl, HCC.out, fun r hr => by rw [HT.out] at hr; cases hr⟩
                · have q3 : ¬ k2 < cur.length := by omega
                  go_wp2
                  go_ret
                  exact ⟨by rw [HT.out]; rfl, HCC.out, fun r hr => by rw [HT.out] at hr; cases hr⟩
              | true =>
                have hlt2 : ¬ k2 < n1 := fun h => hgo ⟨rfl, h⟩
                have q3 : ¬ k2 < cur.length := by omega
                have HT := Lib.hid (show elimR p ds[p] ds[k] = some cur by rw [← InT_t HI.out]; exact elimS_end hlt2)
                have HJ := Lib.hid ((stepS_go hlt (show ¬ (k = p ∨ (gq (gr ds k) p).1 = 0) by rw [gr_at hkd, gq_at hpk]; exact fun h => h.elim HK.out HZ.out) (r := cur) (by rw [gr_at hkd, gr_at hpd]; exact HT.out)).symm.trans Hj.out)
                have HCC := Lib.hid (HC0.out.trans HC2.out (fun x hx => .inl hx))
                have HR2 : Hid (∀ r ∈ ds.set k cur, r.length = n1) := Lib.hid (fun r hr => by
                  rcases List.mem_or_eq_of_mem_set hr with h | h
                  · exact HR.out r h
                  · rw [h]; omega)
                clear hgo hvp hvk
                go_wp2
                exact ⟨⟨k + 1, ds.set k cur, by go_num, by omega, by simp; omega, by simp; omega, HR2, HS2.out, HCC.out, HJ⟩, by simp [intOf]; omega⟩
    · go_wp2
      go_ret
      have e := Hj.out
      rw [stepS_end hlt] at e
      exact ⟨by rw [← e]; rfl, HC.out, fun r hr => by rw [← e] at hr; injection hr with hr; rw [← hr]; exact HS.out⟩
end Go.Proofs.Ytbjpkfgkmilkdaa
