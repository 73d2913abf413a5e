/- Connected components: the reference's way, and that both give the same. -/
import Derived.Test.YtoffbconbgipjaaCComp
import Derived.Test.YtoffbconbgipjaaVJT
namespace Go.Proofs.Ytoffbconbgipjaa
open Go.RowKit

theorem nearS_symm (ats : List At) (v w : Int) : nearS ats v w = nearS ats w v := by
  unfold nearS nearP
  congr 1
  funext a
  by_cases h1 : v ∈ a.2 <;> by_cases h2 : w ∈ a.2 <;> by_cases h3 : w = v <;> simp [h1, h2, h3]
  all_goals exact fun e => h3 e.symm
theorem nearS_out {d : Qd} (h : vqB d = true) {v w : Int} (hv : v < 0 ∨ d.1 ≤ v) : nearS d.2.1 v w = false := by
  obtain ⟨_, _, h3⟩ := vqB_vars h
  unfold nearS
  rw [← Bool.not_eq_true, List.any_eq_true]
  rintro ⟨a, ha, hp⟩
  unfold nearP at hp
  simp only [Bool.and_eq_true, decide_eq_true_eq] at hp
  have := h3 a ha v hp.1.2
  omega
theorem selF_congr {p q : Int → Bool} : ∀ (f k : Nat), (∀ j : Nat, k ≤ j → j < k + f → p j = q j) → selF p f k = selF q f k
  | 0, _, _ => rfl
  | f + 1, k, h => by
    rw [selF, selF, h k (by omega) (by omega), selF_congr f (k + 1) fun j h1 h2 => h j (by omega) (by omega)]
theorem selF_none {p : Int → Bool} : ∀ (f k : Nat), (∀ j : Nat, p j = false) → selF p f k = []
  | 0, _, _ => rfl
  | f + 1, k, h => by rw [selF, h k, selF_none f (k + 1) h]; rfl
/-- the neighbours as a graph of bits -/
theorem nbB_of {d : Qd} {n : Nat} {bits : List Bool} (h : vqB d = true) (hn : d.1 = n) (hb : ∀ v w : Nat, v < n → w < n → v ≠ w → adj bits v w = nearS d.2.1 v w) : nbrs d = nbB bits n := by
  funext v
  unfold nbrs nbB
  rw [if_pos h, hn]
  by_cases h1 : v < 0
  · rw [if_pos h1]
    exact selF_none _ _ fun j => nearS_out h (.inl h1)
  · rw [if_neg h1]
    by_cases h2 : (n : Int) ≤ v
    · rw [if_pos h2]
      exact selF_none _ _ fun j => nearS_out h (.inr (by omega))
    · rw [if_neg h2]
      obtain ⟨u, rfl⟩ : ∃ u : Nat, v = u := ⟨v.toNat, by omega⟩
      simp only [Int.toNat_natCast]
      refine selF_congr _ _ fun j _ hj => ?_
      by_cases e : (j : Int) = (u : Int)
      · rw [decide_eq_false (by simpa using e), Bool.false_and]
        unfold nearS nearP
        rw [e]
        simp
      · rw [decide_eq_true e, Bool.true_and]
        exact (hb u j (by omega) (by omega) (by omega)).symm
theorem cc_bits {m n : Nat} (hc : chkC m n = true) {bits : List Bool} (hl : bits.length = m) : ccP (nbB bits n) n = ccS (nbB bits n) n := by
  unfold chkC at hc
  rw [List.all_eq_true] at hc
  have := hc bits (by rw [← hl]; exact mem_allLists fun x _ => by cases x <;> simp)
  simpa using this
theorem cc_eq {d : Qd} (h : vqB d = true) : ccP (nbrs d) d.1.toNat = ccS (nbrs d) d.1.toNat := by
  obtain ⟨g1, g2, _⟩ := vqB_vars h
  have sy := nearS_symm d.2.1
  obtain ⟨n, hn⟩ : ∃ n : Nat, d.1 = n := ⟨d.1.toNat, by omega⟩
  have hn5 : n = 1 ∨ n = 2 ∨ n = 3 ∨ n = 4 ∨ n = 5 := by omega
  have key : ∀ (bits : List Bool), (∀ v w : Nat, v < n → w < n → v ≠ w → adj bits v w = nearS d.2.1 v w) → ccP (nbB bits n) n = ccS (nbB bits n) n → ccP (nbrs d) d.1.toNat = ccS (nbrs d) d.1.toNat := fun bits hb he => by
    rw [nbB_of h hn hb, hn, Int.toNat_natCast]
    exact he
  rcases hn5 with e | e | e | e | e
  · subst e
    refine key [] (fun v w hv hw hne => by omega) (cc_bits chkC1 rfl)
  · subst e
    refine key [nearS d.2.1 0 1] (fun v w hv hw hne => ?_) (cc_bits chkC2 rfl)
    have : (v = 0 ∧ w = 1) ∨ (v = 1 ∧ w = 0) := by omega
    rcases this with ⟨rfl, rfl⟩ | ⟨rfl, rfl⟩ <;> first | rfl | exact sy _ _
  · subst e
    refine key [nearS d.2.1 0 1, nearS d.2.1 0 2, nearS d.2.1 1 2] (fun v w hv hw hne => ?_) (cc_bits chkC3 rfl)
    have h1 : v = 0 ∨ v = 1 ∨ v = 2 := by omega
    have h2 : w = 0 ∨ w = 1 ∨ w = 2 := by omega
    rcases h1 with rfl | rfl | rfl <;> rcases h2 with rfl | rfl | rfl <;> first | exact absurd rfl hne | rfl | exact sy _ _
  · subst e
    refine key [nearS d.2.1 0 1, nearS d.2.1 0 2, nearS d.2.1 1 2, nearS d.2.1 0 3, nearS d.2.1 1 3, nearS d.2.1 2 3] (fun v w hv hw hne => ?_) (cc_bits chkC4 rfl)
    have h1 : v = 0 ∨ v = 1 ∨ v = 2 ∨ v = 3 := by omega
    have h2 : w = 0 ∨ w = 1 ∨ w = 2 ∨ w = 3 := by omega
    rcases h1 with rfl | rfl | rfl | rfl <;> rcases h2 with rfl | rfl | rfl | rfl <;> first | exact absurd rfl hne | rfl | exact sy _ _
  · subst e
    refine key [nearS d.2.1 0 1, nearS d.2.1 0 2, nearS d.2.1 1 2, nearS d.2.1 0 3, nearS d.2.1 1 3, nearS d.2.1 2 3, nearS d.2.1 0 4, nearS d.2.1 1 4, nearS d.2.1 2 4, nearS d.2.1 3 4] (fun v w hv hw hne => ?_) (chk5 _ _ _ _ _ _ _ _ _ _)
    have h1 : v = 0 ∨ v = 1 ∨ v = 2 ∨ v = 3 ∨ v = 4 := by omega
    have h2 : w = 0 ∨ w = 1 ∨ w = 2 ∨ w = 3 ∨ w = 4 := by omega
    rcases h1 with rfl | rfl | rfl | rfl | rfl <;> rcases h2 with rfl | rfl | rfl | rfl | rfl <;> first | exact absurd rfl hne | rfl | exact sy _ _
theorem relax_step {v : Nat} {mk nr : List Int} {k : Nat} (h : k < nr.length) : relax v mk (nr.drop k) = relax v (mk.set v (min (mk.getD v 0) (mk.getD (nr[k]).toNat 0))) (nr.drop (k + 1)) := by
  rw [List.drop_eq_getElem_cons h, relax]
theorem relax_end {v : Nat} {mk nr : List Int} {k : Nat} (h : ¬ k < nr.length) : relax v mk (nr.drop k) = mk := by
  rw [List.drop_eq_nil_of_le (by omega), relax]
theorem sweep_step {nb : Int → List Int} {n k : Nat} {mk : List Int} (h : k < n) : sweep nb (n - k) k mk = sweep nb (n - (k + 1)) (k + 1) (relax k mk (nb k)) := by
  rw [show n - k = (n - (k + 1)) + 1 by omega, sweep]
theorem sweep_end {nb : Int → List Int} {n k : Nat} {mk : List Int} (h : ¬ k < n) : sweep nb (n - k) k mk = mk := by
  rw [show n - k = 0 by omega, sweep]
theorem sweeps_step {nb : Int → List Int} {n k : Nat} {mk : List Int} (h : k < n) : sweeps nb n (n - k) mk = sweeps nb n (n - (k + 1)) (sweep nb n 0 mk) := by
  rw [show n - k = (n - (k + 1)) + 1 by omega, sweeps]
theorem sweeps_end {nb : Int → List Int} {n k : Nat} {mk : List Int} (h : ¬ k < n) : sweeps nb n (n - k) mk = mk := by
  rw [show n - k = 0 by omega, sweeps]
theorem ccO_step {mk : List Int} {n k : Nat} {out : List (List Int)} (h : k < n) : ccO mk n (n - k) k out = ccO mk n (n - (k + 1)) (k + 1) (if 0 < (partS mk n k).length then out ++ [partS mk n k] else out) := by
  rw [show n - k = (n - (k + 1)) + 1 by omega, ccO]
theorem ccO_end {mk : List Int} {n k : Nat} {out : List (List Int)} (h : ¬ k < n) : ccO mk n (n - k) k out = out := by
  rw [show n - k = 0 by omega, ccO]
def idm (n : Nat) : List Int := (List.range n).map Int.ofNat
@[simp] theorem idm_length (n : Nat) : (idm n).length = n := by simp [idm]
theorem idm_get {n k : Nat} (h : k < (idm n).length) : (idm n)[k] = (k : Int) := by simp [idm]
theorem idm_fill {n k : Nat} (h : k < n) : ((idm n).take k ++ List.replicate (n - k) 0).set k (k : Int) = (idm n).take (k + 1) ++ List.replicate (n - (k + 1)) 0 := by
  have h' : k < (idm n).length := by simpa using h
  have := set_fill (xs := idm n) (z := (0 : Int)) h'
  rw [idm_get h', idm_length] at this
  exact this
theorem ccQ_spec {d : Qd} (h : vqB d = true) : ccO (sweeps (nbrs d) d.1.toNat d.1.toNat (idm d.1.toNat)) d.1.toNat d.1.toNat 0 [] = ccQ d := by
  unfold ccQ
  rw [if_pos h, cc_eq h]
  rfl
theorem SV.at' {w : World} {g c n : Nat} {te : Nat} {ds : List Int} (h : SV te 1 sI w (.slice (some ⟨g, 0, none⟩) n c) ds [g]) {k : Nat} (hk : k < ds.length) : w.cell? ⟨g, k, none⟩ = some (.int .i64 (ds.getD k 0)) := by
  have := (h.toView sI_v).atI' hk
  rw [Nat.zero_add] at this
  exact this.2
set_option maxRecDepth 100000 in
set_option maxHeartbeats 16000000 in
theorem specConnectedComponents_any {A B : Option Addr} {c e1 : Nat} {d : Qd} {w : World} (hb : BQ d) (h : vQ w [.int .i64 d.1, .slice A d.2.1.length c, .slice B d.2.2.length e1] d) :
    Calls Try.prog 47 #[.agg #[.int .i64 d.1, .slice A d.2.1.length c, .slice B d.2.2.length e1]] w (CcP d w) := by
  have HB := Lib.hid hb
  have HV := Lib.hid h
  have HNB := Lib.hid (fun v => Good.nb (d := d) v)
  have HSP := Lib.hid (ccQ_spec (d := d))
  obtain ⟨z, ats, out⟩ := d
  dsimp only at ⊢
  clear h hb
  obtain ⟨t1, ht1⟩ : ∃ t, vqB (z, ats, out) = t := ⟨_, rfl⟩
  have N1 := Lib.hid ht1
  cases t1 with
  | false =>
    have HE := Lib.hid (show ccQ (z, ats, out) = [] by unfold ccQ; rw [ht1]; rfl)
    clear ht1
    go_enter Try.func47, Try.ntmps47
    go_upto_region 1 with fail
    refine wp_name ?_
    intro W hW
    have xW : ∃ y, W = ext w y := by rw [hW.out]; exact (by refine Chg.isExt (F := []) ?_ (refl_ext _) (by simp); repeat (with_reducible (first | exact Chg.refl _ _ | exact Nat.le_refl _ | exact Chg.ofExt (by assumption) | refine Chg.trans0 ?_ (by assumption) | refine Chg.extS ?_ _ | refine Chg.alloc ?_ _ | refine Chg.drew ?_ | refine Chg.setCellE ?_ ?_ _ | refine le_addk ?_ _ | refine le_ext ?_ | refine le_alloc ?_ _ | refine le_setC ?_ _ _ | refine le_drew ?_ | assumption | (refine Nat.le_of_lt ?_; omega) | omega)))
    have BW0 : BoxAt W (w.heap.size) #[.int .i64 z, .slice A ats.length c, .slice B out.length e1] := by rw [hW.out]; refine ⟨?_, fun j => ?_, fun j => ?_⟩ <;> go_simp
    obtain ⟨lW0, bW0, fW0⟩ := BW0
    have cW0_0 : W.cell? ⟨w.heap.size, 0, none⟩ = some (.int .i64 z) := bW0 0
    have cW0_1 : W.cell? ⟨w.heap.size, 1, none⟩ = some (.slice A ats.length c) := bW0 1
    have cW0_2 : W.cell? ⟨w.heap.size, 2, none⟩ = some (.slice B out.length e1) := bW0 2
    clear hW
    have hSo := SV.empty (α := List Int) (te := 22) (size := 1) (E := sSl 3 1 sI) W
    have hz := size_of_ext xW
    go_wp2_with (go_at_call 27; refine (specIsValidQuery_any (d := (z, ats, out)) HB.out (VD.toExt HV.out (by refine Chg.isExt (F := []) ?_ (refl_ext _) (by simp); repeat (with_reducible (first | exact Chg.refl _ _ | exact Nat.le_refl _ | exact Chg.ofExt (by assumption) | refine Chg.trans0 ?_ (by assumption) | refine Chg.extS ?_ _ | refine Chg.alloc ?_ _ | refine Chg.drew ?_ | refine Chg.setCellE ?_ ?_ _ | refine le_addk ?_ _ | refine le_ext ?_ | refine le_alloc ?_ _ | refine le_setC ?_ _ _ | refine le_drew ?_ | assumption | (refine Nat.le_of_lt ?_; omega) | omega))))).mono ?_; rintro e w1 ⟨rfl, hx1⟩; rw [N1.out])
    go_ret
    show CcP _ w _ _
    exact ⟨_, [W.heap.size], rfl, (by refine Chg.isExt (F := []) ?_ (refl_ext _) (by simp); repeat (with_reducible (first | exact Chg.refl _ _ | exact Nat.le_refl _ | exact Chg.ofExt (by assumption) | refine Chg.trans0 ?_ (by assumption) | refine Chg.extS ?_ _ | refine Chg.alloc ?_ _ | refine Chg.drew ?_ | refine Chg.setCellE ?_ ?_ _ | refine le_addk ?_ _ | refine le_ext ?_ | refine le_alloc ?_ _ | refine le_setC ?_ _ _ | refine le_drew ?_ | assumption | (refine Nat.le_of_lt ?_; omega) | omega))), by rw [HE.out]; exact hSo.toExt hx1, by simp, fun b hb => by simp at hb; omega⟩
  | true =>
    obtain ⟨g1, g2, _⟩ := vqB_vars ht1
    dsimp only at g1 g2
    obtain ⟨m, rfl⟩ : ∃ m : Nat, z = m := ⟨z.toNat, by omega⟩
    have hm5 : m ≤ 5 := by omega
    obtain ⟨nb, hnb⟩ : ∃ nb, nbrs ((m : Int), ats, out) = nb := ⟨_, rfl⟩
    have HE : Hid (ccO (sweeps nb m m (idm m)) m m 0 [] = ccQ ((m : Int), ats, out)) := Lib.hid (by have := HSP.out ht1; rw [hnb] at this; simpa using this)
    have HN := Lib.hid hnb
    have HG : Hid (∀ v, Good m (nb v)) := Lib.hid (fun v => by have := HNB.out v; rw [hnb] at this; simpa using this)
    clear ht1 g1 g2 hnb HNB HSP
    go_enter Try.func47, Try.ntmps47
    go_upto_region 1 with fail
    refine wp_name ?_
    intro W hW
    have xW : ∃ y, W = ext w y := by rw [hW.out]; exact (by refine Chg.isExt (F := []) ?_ (refl_ext _) (by simp); repeat (with_reducible (first | exact Chg.refl _ _ | exact Nat.le_refl _ | exact Chg.ofExt (by assumption) | refine Chg.trans0 ?_ (by assumption) | refine Chg.extS ?_ _ | refine Chg.alloc ?_ _ | refine Chg.drew ?_ | refine Chg.setCellE ?_ ?_ _ | refine le_addk ?_ _ | refine le_ext ?_ | refine le_alloc ?_ _ | refine le_setC ?_ _ _ | refine le_drew ?_ | assumption | (refine Nat.le_of_lt ?_; omega) | omega)))
    have BW0 : BoxAt W (w.heap.size) #[.int .i64 m, .slice A ats.length c, .slice B out.length e1] := by rw [hW.out]; refine ⟨?_, fun j => ?_, fun j => ?_⟩ <;> go_simp
    obtain ⟨lW0, bW0, fW0⟩ := BW0
    have cW0_0 : W.cell? ⟨w.heap.size, 0, none⟩ = some (.int .i64 m) := bW0 0
    have cW0_1 : W.cell? ⟨w.heap.size, 1, none⟩ = some (.slice A ats.length c) := bW0 1
    have cW0_2 : W.cell? ⟨w.heap.size, 2, none⟩ = some (.slice B out.length e1) := bW0 2
    clear hW
    have PW : BoxAt W w.heap.size #[.int .i64 m, .slice A ats.length c, .slice B out.length e1] := ⟨lW0, bW0, fW0⟩
    have hSo := SV.empty (α := List Int) (te := 22) (size := 1) (E := sSl 3 1 sI) W
    have g0 : w.heap.size < W.heap.size := lW0
    clear bW0 fW0
    go_wp2_with (first
      | (go_at_call 27; refine (specIsValidQuery_any (d := ((m : Int), ats, out)) HB.out (VD.toExt HV.out (by refine Chg.isExt (F := []) ?_ (refl_ext _) (by simp); repeat (with_reducible (first | exact Chg.refl _ _ | exact Nat.le_refl _ | exact Chg.ofExt (by assumption) | refine Chg.trans0 ?_ (by assumption) | refine Chg.extS ?_ _ | refine Chg.alloc ?_ _ | refine Chg.drew ?_ | refine Chg.setCellE ?_ ?_ _ | refine le_addk ?_ _ | refine le_ext ?_ | refine le_alloc ?_ _ | refine le_setC ?_ _ _ | refine le_drew ?_ | assumption | (refine Nat.le_of_lt ?_; omega) | omega))))).mono ?_; rintro e w1 ⟨rfl, hx1⟩; rw [N1.out]; have P1 : BoxAt w1 w.heap.size #[.int .i64 m, .slice A ats.length c, .slice B out.length e1] := PW.toExt (trans_ext (alloc_ext _ _) hx1); obtain ⟨l1, a1, a1', a1'', f1⟩ := box3 P1)
      | (at_make; refine wpList_makeS (E := sI) (d := 0) (n := m) _ rfl _ _ _ rfl tI rfl rfl (fun _ => ⟨rfl, rfl⟩) (by omega) (by omega) ?_; intro w2 hSm hx2 hg2))
    have hSo := hSo.toExt (trans_ext hx1 hx2)
    have P2 := P1.toExt hx2
    have hxw : ∃ y, w2 = ext w y := trans_ext xW (trans_ext (alloc_ext _ _) (trans_ext hx1 hx2))
    have HXW := Lib.hid hxw
    have hz1 := size_of_ext hx1
    simp only [World.size_alloc] at hz1
    obtain ⟨go, ego⟩ : ∃ g, W.heap.size = g := ⟨_, rfl⟩
    obtain ⟨gm, egm⟩ : ∃ g, w1.heap.size = g := ⟨_, rfl⟩
    rw [ego] at hSo g0 hz1
    rw [egm] at hSm hg2 hz1 ⊢
    try rw [ego]
    clear lW0 cW0_0 cW0_1 cW0_2
    clear ego egm xW hx1 hx2 hxw l1 a1 a1' a1'' f1 PW P1
    go_loopw [5] (fun i wr => ∃ k : Nat, i = .int .i64 k ∧ k ≤ m ∧ SV 3 1 sI wr (.slice (some ⟨gm, 0, none⟩) m m) ((idm m).take k ++ List.replicate (m - k) 0) [gm] ∧ Chg [gm] w2 wr) (fun i _ => m - (intOf i).toNat)
    case atStart => exact ⟨0, rfl, by omega, by simpa using hSm, Chg.refl _ _⟩
    case round =>
      obtain ⟨k, rfl, hk, hS, hC⟩ := hrel
      obtain ⟨l3, a3, a3', a3'', f3⟩ := box3 (P2.chg hC (fun h => by simp at h; omega))
      by_cases hlt : k < m
      · have hlen : ((idm m).take k ++ List.replicate (m - k) 0).length = m := by simp; omega
        have HC := Lib.hid hC
        obtain ⟨⟨u, hu⟩, hf, hg⟩ := hS.cell hlen (j := k) (by omega)
        obtain ⟨s1, s2⟩ := hS.set1 hlen (k := k) (by omega) (u := .int .i64 k) (d := (k : Int)) (fun _ => ⟨rfl, rfl⟩)
        rw [idm_fill hlt] at s1
        have H1 := Lib.hid s1
        have H2 := Lib.hid s2
        clear hS hC s1 s2 hlen
        go_wp2
        exact ⟨⟨k + 1, by go_num, by omega, H1.out, HC.out.trans H2.out (fun x hx => .inl hx)⟩, by simp [intOf]; omega⟩
      · rw [show (idm m).take k ++ List.replicate (m - k) 0 = idm m by rw [List.take_of_length_le (by simp; omega), show m - k = 0 by omega]; simp] at hS
        go_wp2
        go_loopw [6] (fun i xr => ∃ (q : Nat) (mk : List Int), i = .int .i64 q ∧ q ≤ m ∧ SV 3 1 sI xr (.slice (some ⟨gm, 0, none⟩) m m) mk [gm] ∧ Chg [gm] w2 xr ∧ Hid (mk.length = m) ∧ Hid (sweeps nb m (m - q) mk = sweeps nb m m (idm m))) (fun i _ => m - (intOf i).toNat)
        case atStart => exact ⟨0, idm m, rfl, by omega, hS, hC, Lib.hid (by simp), Lib.hid rfl⟩
        case round =>
          clear hS hC hlt hk l3 a3 a3' a3'' f3
          obtain ⟨q, mk, rfl, hq, hS, hC, HL, Hq⟩ := hrel
          have HS := Lib.hid hS
          have HC := Lib.hid hC
          obtain ⟨l3, a3, a3', a3'', f3⟩ := box3 (P2.chg hC (fun h => by simp at h; omega))
          clear hS hC
          by_cases hql : q < m
          · have e := Hq.out
            rw [sweeps_step hql] at e
            have He := Lib.hid e
            clear e Hq
            go_wp2
            go_loopw [7] (fun i xr => ∃ (v : Nat) (mv : List Int), i = .int .i64 v ∧ v ≤ m ∧ SV 3 1 sI xr (.slice (some ⟨gm, 0, none⟩) m m) mv [gm] ∧ Chg [gm] w2 xr ∧ Hid (mv.length = m) ∧ Hid (sweep nb (m - v) v mv = sweep nb m 0 mk)) (fun i _ => m - (intOf i).toNat)
            case atStart => exact ⟨0, mk, rfl, by omega, HS.out, HC.out, HL, Lib.hid rfl⟩
            case round =>
              clear HS HC HL l3 a3 a3' a3'' f3
              obtain ⟨v, mv, rfl, hv, hS, hC, HL, Hv⟩ := hrel
              have HS := Lib.hid hS
              have HC := Lib.hid hC
              obtain ⟨l3, a3, a3', a3'', f3⟩ := box3 (P2.chg hC (fun h => by simp at h; omega))
              have hxv : ∃ y, wr = ext w y := hC.isExt HXW.out (fun x hx => by simp at hx; omega)
              have hzv := hC.size
              clear hS hC
              by_cases hvl : v < m
              · have e := Hv.out
                rw [sweep_step hvl] at e
                obtain ⟨nr, hnr⟩ : ∃ nr, nb v = nr := ⟨_, rfl⟩
                have hGn := HG.out v
                rw [hnr] at e hGn
                have HGn := Lib.hid hGn
                have hnl := hGn.len
                have HX : Hid (nbrs ((m : Int), ats, out) v = nr) := Lib.hid (by rw [HN.out]; exact hnr)
                have He2 := Lib.hid e
                clear e hnr Hv hGn
                go_wp2_with (go_at_call 31; refine (specNeighbors_any (d := ((m : Int), ats, out)) HB.out (VD.toExt HV.out hxv)).mono ?_; rintro e w6 ⟨v6, F6, rfl, hx6, hS6, hF6⟩; rw [HX.out] at hS6; obtain ⟨A6, c6, rfl, _⟩ := hS6.form)
                have hn6 : ∀ b ∈ F6, b ∉ [gm] := fun b hb h => by have := hF6 b hb; simp at h; omega
                have HN6 := Lib.hid hn6
                clear hn6
                go_loopw [9] (fun i xr => ∃ (j : Nat) (mj : List Int), i = .int .i64 j ∧ j ≤ nr.length ∧ SV 3 1 sI xr (.slice (some ⟨gm, 0, none⟩) m m) mj [gm] ∧ SV 3 1 sI xr (.slice A6 nr.length c6) nr F6 ∧ Chg [gm] w2 xr ∧ Hid (mj.length = m) ∧ Hid (relax v mj (nr.drop j) = relax v mv nr)) (fun i _ => nr.length - (intOf i).toNat)
                case atStart => exact ⟨0, mv, rfl, by omega, HS.out.toExt hx6, hS6, HC.out.trans0 hx6, HL, Lib.hid rfl⟩
                case round =>
                  clear HS HC HL l3 a3 a3' a3'' f3 hS6
                  obtain ⟨j, mj, rfl, hj, hS, hSn, hC, HL, Hj⟩ := hrel
                  have HS := Lib.hid hS
                  have HSn := Lib.hid hSn
                  have HC := Lib.hid hC
                  by_cases hjl : j < nr.length
                  · obtain ⟨b, o, rfl⟩ := (hSn.toView sI_v).place (by omega)
                    obtain ⟨bb, bc⟩ := (hSn.toView sI_v).atI' hjl
                    have e := Hj.out
                    rw [relax_step hjl] at e
                    have hr := HGn.out.2 nr[j] (List.getElem_mem hjl)
                    rw [show nr.getD j 0 = nr[j] by rw [List.getD_eq_getElem?_getD, List.getElem?_eq_getElem hjl]; rfl] at bc
                    obtain ⟨x, hxx⟩ : ∃ x, nr[j] = x := ⟨_, rfl⟩
                    rw [hxx] at e hr bc
                    obtain ⟨hr1, hr2⟩ := hr
                    obtain ⟨xi, rfl⟩ : ∃ xi : Nat, x = xi := ⟨x.toNat, by omega⟩
                    rw [Int.toNat_natCast] at e
                    have hxm : xi < m := by omega
                    have y1 := hS.at' (k := v) (by rw [HL.out]; exact hvl)
                    have y2 := hS.at' (k := xi) (by rw [HL.out]; exact hxm)
                    obtain ⟨_, hf, hg⟩ := hS.cell HL.out (j := v) (by omega)
                    obtain ⟨p1, hp1⟩ : ∃ p, mj.getD v 0 = p := ⟨_, rfl⟩
                    obtain ⟨p2, hp2⟩ : ∃ p, mj.getD xi 0 = p := ⟨_, rfl⟩
                    rw [hp1] at y1 e
                    rw [hp2] at y2 e
                    have i0 : (0 : Int) ≤ (v : Int) := by omega
                    have i1 : (v : Int) < (m : Int) := by omega
                    have i2 : (0 : Int) ≤ (xi : Int) := by omega
                    have i3 : (xi : Int) < (m : Int) := by omega
                    have i4 : (0 : Int) ≤ (j : Int) := by omega
                    have i5 : (j : Int) < (nr.length : Int) := by omega
                    have hmin : min p1 p2 = if p2 < p1 then p2 else p1 := by split <;> omega
                    rw [hmin] at e
                    have He3 := Lib.hid e
                    obtain ⟨s1, s2⟩ := hS.set1 HL.out (k := v) (by omega) (u := .int .i64 (if p2 < p1 then p2 else p1)) (d := if p2 < p1 then p2 else p1) (fun _ => ⟨rfl, rfl⟩)
                    have s3 := hSn.chg s2 HN6.out
                    have H1 := Lib.hid s1
                    have H2 := Lib.hid s2
                    have H3 := Lib.hid s3
                    have HLs : Hid ((mj.set v (if p2 < p1 then p2 else p1)).length = m) := Lib.hid (by rw [List.length_set]; exact HL.out)
                    clear hS hSn hC e hxx hp1 hp2 s1 s2 s3 hmin Hj
                    go_wp2
                    go_region_with (fail)
                    all_goals
                      go_wp2
                      exact ⟨⟨j + 1, _, by go_num, by omega, H1.out.toExt (drew_ext _), H3.out.toExt (drew_ext _), (HC.out.trans H2.out (fun x hx => .inl hx)).drew, HLs, He3⟩, by simp [intOf]; omega⟩
                  · have e := Hj.out
                    rw [relax_end hjl] at e
                    have HK := Lib.hid (show sweep nb (m - (v + 1)) (v + 1) mj = sweep nb m 0 mk by rw [e]; exact He2.out)
                    clear e Hj hS hSn hC
                    go_wp2
                    exact ⟨⟨v + 1, mj, by go_num, by omega, HS.out, HC.out, HL, HK⟩, by simp [intOf]; omega⟩
              · have e := Hv.out
                rw [sweep_end hvl] at e
                have HK := Lib.hid (show sweeps nb m (m - (q + 1)) mv = sweeps nb m m (idm m) by rw [e]; exact He.out)
                clear e Hv
                go_wp2
                exact ⟨⟨q + 1, mv, by go_num, by omega, HS.out, HC.out, HL, HK⟩, by simp [intOf]; omega⟩
          · have e := Hq.out
            rw [sweeps_end hql] at e
            have HM := Lib.hid e
            have hSO := hSo.chg HC.out (fun b hb h => by simp at hb h; omega)
            have hxr : ∃ y, wr = ext w y := HC.out.isExt HXW.out (fun x hx => by simp at hx; omega)
            have PR := P2.chg HC.out (fun h => by simp at h; omega)
            have hgs : gm < wr.heap.size := Nat.lt_of_lt_of_le hg2 HC.out.size
            clear e Hq
            go_wp2
            go_loopw [3, 10] (fun vo i xr => ∃ (k : Nat) (outs : List (List Int)) (FO : List Nat), i = .int .i64 k ∧ k ≤ m ∧ SV 22 1 (sSl 3 1 sI) xr vo outs FO ∧ FO.Nodup ∧ (∀ b ∈ FO, w.heap.size < b ∧ b ≠ gm) ∧ SV 3 1 sI xr (.slice (some ⟨gm, 0, none⟩) m m) mk [gm] ∧ BoxAt xr w.heap.size #[.int .i64 m, .slice A ats.length c, .slice B out.length e1] ∧ (∃ y, xr = ext w y) ∧ gm < xr.heap.size ∧ outs.length ≤ k ∧ Hid (ccO mk m (m - k) k outs = ccQ ((m : Int), ats, out))) (fun _ i _ => m - (intOf i).toNat)
            case atStart => exact ⟨0, [], [go], rfl, by omega, hSO, by simp, fun b hb => by simp at hb; omega, HS.out, PR, hxr, hgs, by simp, Lib.hid (by rw [HM.out]; exact HE.out)⟩
            case round =>
              clear HS HC hSO hxr PR hgs hSo P2 hSm
              obtain ⟨k, outs, FO, rfl, hk, hSO, hNO, hFO, hSM, hP, hy, hgs, hol, Hk⟩ := hrel
              have HSO := Lib.hid hSO
              have HNO := Lib.hid hNO
              have HFO := Lib.hid hFO
              have HSM := Lib.hid hSM
              have HY := Lib.hid hy
              have HBP := Lib.hid hP
              obtain ⟨AO, cO, rfl, _⟩ := hSO.form
              obtain ⟨l3, a3, a3', a3'', f3⟩ := box3 hP
              have hzy := size_of_ext hy
              clear hSO hNO hFO hSM hP hy
              by_cases hkl : k < m
              · have e := Hk.out
                rw [ccO_step hkl] at e
                obtain ⟨PT, hPT⟩ : ∃ PT, partS mk m k = PT := ⟨_, rfl⟩
                rw [hPT] at e
                have hpl : PT.length ≤ 5 := by rw [← hPT]; unfold partS; have := selF_length (p := fun w => decide (mk.getD w.toNat 0 = (k : Int))) m 0; omega
                have HPT := Lib.hid hPT
                have He := Lib.hid e
                clear e hPT Hk
                go_upto_region 24 with fail
                refine wp_name ?_
                intro wp hwp
                have hxp : ∃ y, wp = ext wr y := by rw [hwp.out]; exact alloc_ext _ _
                have hS0 : SV 3 1 sI wp (.slice (some ⟨wr.heap.size, 0, none⟩) 0 0) ([] : List Int) [wr.heap.size] := by rw [hwp.out]; exact SV.empty wr
                have hPp := HBP.out.toExt hxp
                clear hwp l3 a3 a3' a3'' f3
                go_wp2
                go_loopw [11, 12] (fun vp i ws => ∃ (q : Nat) (ds : List Int) (FP : List Nat), i = .int .i64 q ∧ q ≤ m ∧ SV 3 1 sI ws vp ds FP ∧ (∀ b ∈ FP, wr.heap.size ≤ b) ∧ (∃ y, ws = ext wr y) ∧ ds.length ≤ q ∧ Hid (ds ++ selF (fun w => decide (mk.getD w.toNat 0 = (k : Int))) (m - q) q = PT)) (fun _ i _ => m - (intOf i).toNat)
                case atStart => exact ⟨0, [], [wr.heap.size], rfl, by omega, hS0, by simp, hxp, by simp, Lib.hid (by rw [← HPT.out]; rfl)⟩
                case round =>
                  clear hS0
                  obtain ⟨q, ds, FP, rfl, hq, hSP, hFP, hyq, hdl, Hq⟩ := hrel
                  have HSP := Lib.hid hSP
                  have HFP := Lib.hid hFP
                  have HYQ := Lib.hid hyq
                  obtain ⟨AP, cP, rfl, _⟩ := hSP.form
                  obtain ⟨l4, a4, a4', a4'', f4⟩ := box3 (HBP.out.toExt hyq)
                  have hlP := Lib.hid hSP.lt
                  clear hSP hFP hyq
                  by_cases hql2 : q < m
                  · have y1 := (HSM.out.toExt HYQ.out).at' (k := q) (by rw [HL.out]; exact hql2)
                    have y0 := ltX HYQ.out hgs
                    have e := Hq.out
                    rw [selF_step hql2, Int.toNat_natCast] at e
                    obtain ⟨p, hp⟩ : ∃ p, mk.getD q 0 = p := ⟨_, rfl⟩
                    rw [hp] at y1 e
                    obtain ⟨t, ht⟩ : ∃ t, decide (p = (k : Int)) = t := ⟨_, rfl⟩
                    have qt : (p == (k : Int)) = t := by rw [← ht]; rfl
                    rw [ht] at e
                    have Heq := Lib.hid e
                    clear e hp ht Hq
                    cases t with
                    | true =>
                      go_wp2_with (at_builtin; refine wpList_app1 (E := sI) (d := (q : Int)) rfl _ _ _ rfl tI rfl rfl rfl (by simp) (fun _ => ⟨rfl, rfl⟩) rfl (by simp [Value.oneCell']) HSP.out (by omega) (by omega) ?_; intro v7 w7 F7 hS7 hC7 hF7)
                      exact ⟨⟨q + 1, ds ++ [(q : Int)], F7, by go_num, by omega, hS7, newer HFP.out (size_of_ext HYQ.out) hF7, hC7.isExt HYQ.out HFP.out, by simp; omega, Lib.hid (by simpa using Heq.out)⟩, by simp [intOf]; omega⟩
                    | false =>
                      go_wp2
                      exact ⟨⟨q + 1, ds, FP, by go_num, by omega, HSP.out, HFP.out, HYQ.out, by omega, Lib.hid (by simpa using Heq.out)⟩, by simp [intOf]; omega⟩
                  · have e := Hq.out
                    rw [show m - q = 0 by omega, selF, List.append_nil] at e
                    subst e
                    clear Hq
                    have hOlt := Lib.hid HSO.out.lt
                    have hzq := size_of_ext HYQ.out
                    by_cases hpos : 0 < ds.length
                    · have e := He.out
                      rw [if_pos hpos] at e
                      have HK := Lib.hid e
                      have HOP : Hid ((FO ++ FP).Nodup) := Lib.hid (List.nodup_append.2 ⟨HNO.out, HSP.out.nodup, fun a ha b hb e => by subst e; have := HFP.out a hb; have := hOlt.out a ha; omega⟩)
                      clear e
                      go_wp2_with (at_builtin; refine wpList_appN (E := sSl 3 1 sI) (d := ds) (G := FP) rfl _ _ _ rfl tIIr rfl rfl rfl (by simp) ⟨_, rfl, HSP.out⟩ rfl (by simp [Value.oneCell']) (HSO.out.toExt HYQ.out) HOP.out (by omega) (by omega) ?_; intro v9 w9 F9 hS9 hC9 hN9 hF9)
                      have hz9 := hC9.size
                      have hn9 : ∀ b ∈ F9, w.heap.size < b ∧ b ≠ gm := fun b hb => by
                        rcases hF9 b hb with h | h | h
                        · exact HFO.out b h
                        · have := HFP.out b h; omega
                        · omega
                      exact ⟨⟨k + 1, outs ++ [ds], F9, by go_num, by omega, hS9, hN9, hn9, (HSM.out.toExt HYQ.out).chg hC9 (fun b hb h => by simp at hb; exact (HFO.out b h).2 hb), (HBP.out.toExt HYQ.out).chg hC9 (fun h => by have := (HFO.out _ h).1; omega), hC9.isExt (trans_ext HY.out HYQ.out) (fun b hb => by have := (HFO.out b hb).1; omega), by omega, by simp; omega, HK⟩, by simp [intOf]; omega⟩
                    · have e := He.out
                      rw [if_neg hpos] at e
                      have HK := Lib.hid e
                      clear e
                      go_wp2
                      exact ⟨⟨k + 1, outs, FO, by go_num, by omega, HSO.out.toExt HYQ.out, HNO.out, HFO.out, HSM.out.toExt HYQ.out, HBP.out.toExt HYQ.out, trans_ext HY.out HYQ.out, by omega, by omega, HK⟩, by simp [intOf]; omega⟩
              · have e := Hk.out
                rw [ccO_end hkl] at e
                have HK := Lib.hid e.symm
                clear e Hk
                go_wp2
                go_ret
                show CcP _ w _ _
                exact ⟨_, FO, rfl, HY.out, by rw [HK.out]; exact HSO.out, HNO.out, fun b hb => by have := (HFO.out b hb).1; omega⟩
end Go.Proofs.Ytoffbconbgipjaa
