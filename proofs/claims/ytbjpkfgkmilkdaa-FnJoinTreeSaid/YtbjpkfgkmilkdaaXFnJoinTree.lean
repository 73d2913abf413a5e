/- A query drawn from any bytes: if its atoms can be removed down to one, the tree that is built is a join tree of it, its root the atom that remains. -/
import Derived.Test.YtbjpkfgkmilkdaaXFnScal1
import Derived.Test.YtbjpkfgkmilkdaaQ04
import Derived.Test.YtbjpkfgkmilkdaaQ05
namespace Go.Proofs.Ytbjpkfgkmilkdaa
open Go.ChangeShapes Go.WideShapes Go.ChangeAt Go.RowKit

theorem bj1 {w : World} {B : Nat} {u : Value} (h : BoxAt w B #[u]) : B < w.heap.size ∧ w.cell? ⟨B, 0, none⟩ = some u ∧ ∀ j, w.frozen? ⟨B, j, none⟩ = false := ⟨h.1, h.2.1 0, h.2.2⟩
theorem jroot_no {root : Int} : ∀ {xs : List Int} {i : Nat}, (∀ x ∈ xs, x ≠ -1) → jroot i root xs = root
  | [], _, _ => rfl
  | p :: ps, i, h => by rw [jroot, if_neg (h p (by simp)), jroot_no fun x hx => h x (by simp [hx])]
theorem getD_mem {xs : List Int} {x : Int} (h : x ∈ xs) : ∃ j, j < xs.length ∧ xs.getD j 0 = x := by
  obtain ⟨j, hj, e⟩ := List.getElem_of_mem h
  exact ⟨j, hj, by rw [List.getD_eq_getElem?_getD, List.getElem?_eq_getElem hj, e]; rfl⟩
theorem jroot_uniq {root : Int} (hr : root < 0) : ∀ {xs : List Int} {i r : Nat}, r < xs.length → xs.getD r 0 = -1 → (∀ j, j < xs.length → j ≠ r → 0 ≤ xs.getD j 0) → jroot i root xs = ((i + r : Nat) : Int)
  | [], _, _, h, _, _ => by simp at h
  | p :: ps, i, 0, _, h1, h2 => by
    have hp : p = -1 := by simpa using h1
    rw [jroot, if_pos hp, if_neg (by omega), jroot_no]
    · rfl
    · intro x hx
      obtain ⟨j, hj, e⟩ := getD_mem hx
      have := h2 (j + 1) (by simpa using hj) (by omega)
      rw [List.getD_cons_succ, e] at this
      omega
  | p :: ps, i, r + 1, h, h1, h2 => by
    have hp := h2 0 (by simp) (by omega)
    rw [List.getD_cons_zero] at hp
    rw [jroot, if_neg (by omega), jroot_uniq hr (r := r) (by simpa using h) (by simpa using h1) fun j hj hne => by
      have := h2 (j + 1) (by simpa using hj) (by omega)
      rwa [List.getD_cons_succ] at this]
    congr 1
    omega
/-- how many parents are among the first m places -/
def cnP (ps : List Int) (m : Nat) : Nat := ps.countP fun p => decide (0 ≤ p ∧ p < (m : Int))
theorem cnP_zero (ps : List Int) : cnP ps 0 = 0 := by
  unfold cnP
  rw [List.countP_eq_zero]
  intro p _
  simp
theorem cnP_step : ∀ (ps : List Int) (m k : Nat), cnP ps (m + 1) = cnP ps m + (chl k (m : Int) ps).length
  | [], _, _ => rfl
  | p :: ps, m, k => by
    have ih := cnP_step ps m (k + 1)
    unfold cnP at ih ⊢
    rw [List.countP_cons, List.countP_cons, chl]
    by_cases h : p = (m : Int)
    · have a1 : decide (0 ≤ p ∧ p < ((m + 1 : Nat) : Int)) = true := decide_eq_true (by omega)
      have a2 : decide (0 ≤ p ∧ p < (m : Int)) = false := decide_eq_false (by omega)
      rw [a1, a2, if_pos (show p = (m : Int) ∧ 0 ≤ (m : Int) from ⟨h, by omega⟩), List.length_cons, if_pos rfl, if_neg (by simp)]
      omega
    · have a3 : decide (0 ≤ p ∧ p < ((m + 1 : Nat) : Int)) = decide (0 ≤ p ∧ p < (m : Int)) := decide_eq_decide.2 (by omega)
      rw [a3, ih, Nat.add_right_comm, if_neg (show ¬ (p = (m : Int) ∧ 0 ≤ (m : Int)) from fun e => h e.1)]
theorem cnP_uniq {m : Nat} : ∀ {xs : List Int} {r : Nat}, r < xs.length → xs.getD r 0 = -1 → (∀ j, j < xs.length → j ≠ r → 0 ≤ xs.getD j 0 ∧ xs.getD j 0 < (m : Int)) → cnP xs m + 1 = xs.length
  | [], _, h, _, _ => by simp at h
  | p :: ps, 0, _, h1, h2 => by
    have hp : p = -1 := by simpa using h1
    unfold cnP
    rw [List.countP_cons, if_neg (by simp; omega), List.length_cons]
    have : List.countP (fun p => decide (0 ≤ p ∧ p < (m : Int))) ps = ps.length := by
      rw [List.countP_eq_length]
      intro x hx
      obtain ⟨j, hj, e⟩ := getD_mem hx
      have := h2 (j + 1) (by simpa using hj) (by omega)
      rw [List.getD_cons_succ, e] at this
      exact decide_eq_true this
    omega
  | p :: ps, r + 1, h, h1, h2 => by
    have hp := h2 0 (by simp) (by omega)
    rw [List.getD_cons_zero] at hp
    have ih := cnP_uniq (m := m) (xs := ps) (r := r) (by simpa using h) (by simpa using h1) fun j hj hne => by
      have := h2 (j + 1) (by simpa using hj) (by omega)
      rwa [List.getD_cons_succ] at this
    unfold cnP at ih ⊢
    rw [List.countP_cons, if_pos (by simp; omega), List.length_cons]
    omega
theorem cnP_le (ps : List Int) (m : Nat) : cnP ps m ≤ ps.length := List.countP_le_length
/-- what is known of the tree of a query whose atoms can be removed -/
theorem jt_laws {q : Qd} (h : acyB q = true) : ivjB q (jtQ q) = true ∧ (jtQ q).length = q.2.1.length ∧ (∃ r : Nat, jroot 0 (-1) (jtQ q) = (r : Int) ∧ (r : Int) ∉ remQ q) ∧ cnP (jtQ q) (jtQ q).length + 1 = (jtQ q).length := by
  have h' := h
  unfold acyB at h
  rw [Bool.and_eq_true, decide_eq_true_eq] at h
  obtain ⟨hv, hc⟩ := h
  have hv2 := hv
  unfold vqB at hv2
  simp only [Bool.and_eq_true] at hv2
  have h1 := inB_t hv2.1.1.1.2
  have hN := vq_n (n := q.1) (ats := q.2.1) (out := q.2.2) hv
  obtain ⟨k1, r, k2, k3, k4, k5, k6⟩ := acy_jt (ats := q.2.1) (n := q.1.toNat) (by omega) hc (fun v hv' => by
    have h9 := vq_cov (n := q.1) (ats := q.2.1) (out := q.2.2) hv (v : Int) (by omega) (by omega)
    unfold seen at h9
    obtain ⟨a, ha, hm⟩ := List.mem_flatMap.1 h9
    obtain ⟨j, hj, e⟩ := List.getElem_of_mem ha
    exact ⟨j, hj, by rw [← vof_get hj, e]; exact hm⟩)
  have e1 : jtQ q = (gyoQ q.2.1).2 := by unfold jtQ; rw [if_pos h']
  have e2 : remQ q = (gyoQ q.2.1).1 := by unfold remQ; rw [if_pos hv]
  rw [e1, e2]
  refine ⟨?_, k6, ⟨r, ?_, k4⟩, ?_⟩
  · unfold ivjB
    rw [hv, k1]
    rfl
  · rw [jroot_uniq (by omega) (r := r) (by omega) k3 fun j hj hne => (k5 j (by omega) hne).1]
    simp
  · exact cnP_uniq (r := r) (by omega) k3 fun j hj hne => by have := k5 j (by omega) hne; omega
theorem remQ_len (q : Qd) : (remQ q).length ≤ q.2.1.length := by
  unfold remQ
  split
  · have := gyoQ_len q.2.1
    omega
  · simp
set_option maxHeartbeats 2000000 in
theorem lawHas_any {A : Option Addr} {c : Nat} {xs : List Int} {n : Int} {w : World} (hx : xs.length ≤ 1000000000) (h1 : RI w A xs) :
    Calls Try.prog 43 #[.slice A xs.length c, .int .i64 n] w fun e w' => e = .returned (.bool (decide (n ∈ xs))) ∧ ∃ y, w' = ext w y := by
  go_enter Try.func43, Try.ntmps43
  go_wp2
  go_loop [5] (fun i => ∃ k : Nat, i = .int .i64 k ∧ k ≤ xs.length ∧ Hid (decide (n ∈ xs.drop k) = decide (n ∈ xs))) (fun i => xs.length - (intOf i).toNat)
  case atStart => exact ⟨0, rfl, by omega, Lib.hid (by simp)⟩
  case round =>
    obtain ⟨k, rfl, hk, HE⟩ := hrel
    by_cases hlt : k < xs.length
    · obtain ⟨b, o, rfl, hb, hc⟩ := h1.atI hlt
      have hd : xs.drop k = xs[k] :: xs.drop (k + 1) := List.drop_eq_getElem_cons hlt
      obtain ⟨z, hz⟩ : ∃ z, xs[k] = z := ⟨_, rfl⟩
      rw [hz] at hd hc
      by_cases he : z = n
      · have hq : (z == n) = true := by simp [he]
        have HD := Lib.hid (show decide (n ∈ xs) = true by rw [← HE.out, hd]; simp [he])
        clear hd hz he
        go_wp2
        go_ret
        exact ⟨by rw [HD.out]; rfl, refl_ext w⟩
      · have hq : (z == n) = false := by simp [he]
        have HE2 : Hid (decide (n ∈ xs.drop (k + 1)) = decide (n ∈ xs)) := Lib.hid (by
          rw [← HE.out, hd]
          simp [show ¬ n = z from fun e => he e.symm])
        clear hd hz he
        go_wp2
        exact ⟨⟨k + 1, by go_num, by omega, HE2⟩, by simp [intOf]; omega⟩
    · have HD := Lib.hid (show decide (n ∈ xs) = false by rw [← HE.out, List.drop_eq_nil_of_le (by omega)]; simp)
      go_wp2
      go_ret
      exact ⟨by rw [HD.out]; rfl, refl_ext w⟩
set_option maxHeartbeats 2000000 in
theorem law_JT_big (A : Option Addr) (c : Nat) (bs : List UInt8) (w : World) (hb : 1048576 < bs.length) (hl : bs.length ≤ 9223372036854775807) : Calls Try.prog 6 #[.slice A bs.length c] w fun e w' => e = .returned (.bool true) ∧ ∃ y, w' = ext w y := by
  go_enter Try.func6, Try.ntmps6
  go_wp2_with fail
  refine (lawBig_any hl).mono ?_
  rintro e w1 ⟨rfl, hx1⟩
  rw [decide_eq_true hb]
  go_wp2_with fail
  go_ret
  exact ⟨rfl, hx1⟩
set_option maxRecDepth 100000 in
set_option maxHeartbeats 16000000 in
theorem law_JT_m (A : Option Addr) (c : Nat) (bs : List UInt8) (w : World) (hb : bs.length ≤ 1048576) (h1 : RU w A bs) : Calls Try.prog 6 #[.slice A bs.length c] w fun e w' => e = .returned (.bool true) ∧ ∃ y, w' = ext w y := by
  have HU := Lib.hid h1
  clear h1
  go_enter Try.func6, Try.ntmps6
  go_wp2_with fail
  refine (lawBig_any (by omega)).mono ?_
  rintro e w1 ⟨rfl, hx1⟩
  rw [decide_eq_false (show ¬ 1048576 < bs.length by omega)]
  have HX := Lib.hid hx1
  clear hx1
  go_wp2_with fail
  refine (DrawBuildJoinTree_any hb (HU.out.toExt HX.out)).mono ?_
  rintro e w2 ⟨A31, a31, A32, a32, q, rfl, hv, hD, hx2⟩
  have V3 := Lib.hid hv
  have hqb := hD.b
  have hqn := hD.n
  have Hx2 := Lib.hid hx2
  clear hv hD hx2
  go_upto_region 4 with fail
  refine wp_name ?_
  intro W2 hW
  have xw : ∃ y, W2 = ext w2 y := by rw [hW.out]; exact (by refine Chg.isExt (F := []) ?_ (refl_ext _) (by simp); repeat (with_reducible (first | exact Chg.refl _ _ | exact Nat.le_refl _ | exact Chg.ofExt (by assumption) | refine Chg.trans0 ?_ (by assumption) | refine Chg.extS ?_ _ | refine Chg.alloc ?_ _ | refine Chg.drew ?_ | refine Chg.setCellE ?_ ?_ _ | refine le_addk ?_ _ | refine le_ext ?_ | refine le_alloc ?_ _ | refine le_setC ?_ _ _ | refine le_drew ?_ | assumption | (refine Nat.le_of_lt ?_; omega) | omega)))
  have B3 : Hid (BoxAt W2 w2.heap.size #[.int .i64 q.1, .slice A31 q.2.1.length a31, .slice A32 q.2.2.length a32]) := Lib.hid (by rw [hW.out]; exact BoxAt.new _ _ _)
  have V3 := Lib.hid (VD.toExt V3.out xw)
  have HX := Lib.hid (trans_ext HX.out (trans_ext Hx2.out xw))
  clear hW xw Hx2
  obtain ⟨l3, k30, k31, k32, f3⟩ := box3 B3.out
  obtain ⟨t, ht⟩ : ∃ t, acyB q = t := ⟨_, rfl⟩
  have HT := Lib.hid ht
  clear ht
  go_wp2_with fail
  refine (BuildJoinTree_any hqb V3.out).mono ?_
  rintro e w4 ⟨v4, F4, rfl, hx4, hS4, _⟩
  rw [HT.out]
  obtain ⟨ps, hps⟩ : ∃ l, jtQ q = l := ⟨_, rfl⟩
  have HPS := Lib.hid hps
  rw [hps] at hS4
  obtain ⟨A4, a4, rfl, _, _, hr4⟩ := hS4.view sI_v
  have V4 := Lib.hid hr4
  have Hx4 := Lib.hid hx4
  clear hps hS4 hr4 hx4
  go_upto_region 5 with fail
  refine wp_name ?_
  intro W4 hW
  have xw : ∃ y, W4 = ext w4 y := by rw [hW.out]; exact (by refine Chg.isExt (F := []) ?_ (refl_ext _) (by simp); repeat (with_reducible (first | exact Chg.refl _ _ | exact Nat.le_refl _ | exact Chg.ofExt (by assumption) | refine Chg.trans0 ?_ (by assumption) | refine Chg.extS ?_ _ | refine Chg.alloc ?_ _ | refine Chg.drew ?_ | refine Chg.setCellE ?_ ?_ _ | refine le_addk ?_ _ | refine le_ext ?_ | refine le_alloc ?_ _ | refine le_setC ?_ _ _ | refine le_drew ?_ | assumption | (refine Nat.le_of_lt ?_; omega) | omega)))
  have B4 : Hid (BoxAt W4 w4.heap.size #[.slice A4 ps.length a4]) := Lib.hid (by rw [hW.out]; exact BoxAt.new _ _ _)
  have V4 := Lib.hid (V4.out.toExt xw)
  have xx := trans_ext Hx4.out xw
  have B3 := Lib.hid (B3.out.toExt xx)
  have V3 := Lib.hid (VD.toExt V3.out xx)
  have HX := Lib.hid (trans_ext HX.out xx)
  clear hW xw Hx4 xx l3 k30 k31 k32 f3
  obtain ⟨l3, k30, k31, k32, f3⟩ := box3 B3.out
  obtain ⟨l4, k40, f4⟩ := bj1 B4.out
  go_wp2_with fail
  refine (RemovableAtoms_any hqb V3.out).mono ?_
  rintro e w5 ⟨v5, F5, rfl, hx5, hS5, _⟩
  obtain ⟨es, hes⟩ : ∃ l, remQ q = l := ⟨_, rfl⟩
  have HES := Lib.hid hes
  rw [hes] at hS5
  obtain ⟨A5, a5, rfl, ha5, hm5, hr5⟩ := hS5.view sI_v
  have h5l : es.length ≤ 1000000000 := by rw [← HES.out]; have := remQ_len q; omega
  have V5 := Lib.hid hr5
  have B3 := Lib.hid (B3.out.toExt hx5)
  have V3 := Lib.hid (VD.toExt V3.out hx5)
  have HX := Lib.hid (trans_ext HX.out hx5)
  have B4 := Lib.hid (B4.out.toExt hx5)
  have V4 := Lib.hid (V4.out.toExt hx5)
  clear hes hS5 hr5 hx5 l3 k30 k31 k32 f3 l4 k40 f4
  obtain ⟨l3, k30, k31, k32, f3⟩ := box3 B3.out
  obtain ⟨l4, k40, f4⟩ := bj1 B4.out
  go_wp2_with fail
  refine (specRemovableAtoms_any hqb V3.out).mono ?_
  rintro e w6 ⟨v6, F6, rfl, hx6, hS6, _⟩
  rw [HES.out] at hS6
  obtain ⟨A6, a6, rfl, _, _, hr6⟩ := hS6.view sI_v
  have V6 := Lib.hid hr6
  have V5 := Lib.hid (V5.out.toExt hx6)
  have B3 := Lib.hid (B3.out.toExt hx6)
  have V3 := Lib.hid (VD.toExt V3.out hx6)
  have HX := Lib.hid (trans_ext HX.out hx6)
  have B4 := Lib.hid (B4.out.toExt hx6)
  have V4 := Lib.hid (V4.out.toExt hx6)
  clear hS6 hr6 hx6 l3 k30 k31 k32 f3 l4 k40 f4
  obtain ⟨l3, k30, k31, k32, f3⟩ := box3 B3.out
  obtain ⟨l4, k40, f4⟩ := bj1 B4.out
  go_wp2_with fail
  refine (lawSameInts_any h5l V5.out h5l V6.out).mono ?_
  rintro e w7 ⟨rfl, hx7⟩
  rw [decide_eq_true rfl]
  have V5 := Lib.hid (V5.out.toExt hx7)
  have B3 := Lib.hid (B3.out.toExt hx7)
  have V3 := Lib.hid (VD.toExt V3.out hx7)
  have HX := Lib.hid (trans_ext HX.out hx7)
  have B4 := Lib.hid (B4.out.toExt hx7)
  have V4 := Lib.hid (V4.out.toExt hx7)
  clear hx7 l3 k30 k31 k32 f3 l4 k40 f4
  obtain ⟨l3, k30, k31, k32, f3⟩ := box3 B3.out
  obtain ⟨l4, k40, f4⟩ := bj1 B4.out
  go_wp2_with fail
  refine (IsAcyclic_any hqb V3.out).mono ?_
  rintro e w8 ⟨rfl, hx8⟩
  rw [HT.out]
  have V5 := Lib.hid (V5.out.toExt hx8)
  have B3 := Lib.hid (B3.out.toExt hx8)
  have V3 := Lib.hid (VD.toExt V3.out hx8)
  have HX := Lib.hid (trans_ext HX.out hx8)
  have B4 := Lib.hid (B4.out.toExt hx8)
  have V4 := Lib.hid (V4.out.toExt hx8)
  clear hx8 l3 k30 k31 k32 f3 l4 k40 f4
  obtain ⟨l3, k30, k31, k32, f3⟩ := box3 B3.out
  obtain ⟨l4, k40, f4⟩ := bj1 B4.out
  have q1 : (t != t) = false := by simp
  go_wp2_with fail
  refine (specIsAcyclic_any hqb V3.out).mono ?_
  rintro e w9 ⟨rfl, hx9⟩
  rw [HT.out]
  have V5 := Lib.hid (V5.out.toExt hx9)
  have B3 := Lib.hid (B3.out.toExt hx9)
  have V3 := Lib.hid (VD.toExt V3.out hx9)
  have HX := Lib.hid (trans_ext HX.out hx9)
  have B4 := Lib.hid (B4.out.toExt hx9)
  have V4 := Lib.hid (V4.out.toExt hx9)
  clear hx9 l3 k30 k31 k32 f3 l4 k40 f4
  obtain ⟨l3, k30, k31, k32, f3⟩ := box3 B3.out
  obtain ⟨l4, k40, f4⟩ := bj1 B4.out
  cases t with
  | false =>
    have hp0 : ps.length = 0 := by
      rw [← HPS.out]
      unfold jtQ
      rw [if_neg (by rw [HT.out]; simp)]
      rfl
    have hp1 : ((ps.length : Int) == 0) = true := by rw [hp0]; rfl
    go_wp2_with fail
    go_ret
    exact ⟨by simp, HX.out⟩
  | true =>
    obtain ⟨j1, j2, ⟨r, j3, j4⟩, j5⟩ := jt_laws HT.out
    rw [HPS.out] at j1 j2 j3 j5
    rw [HES.out] at j4
    have hpl : ps.length ≤ 5 := by omega
    have J1 := Lib.hid j1
    have J2 := Lib.hid j2
    have J3 := Lib.hid j3
    have J4 := Lib.hid (show decide ((r : Int) ∈ es) = false from decide_eq_false j4)
    have J5 := Lib.hid j5
    clear j1 j2 j3 j4 j5
    go_wp2_with fail
    refine (JoinTreeRoot_any (by omega) V4.out).mono ?_
    rintro e wa ⟨rfl, hxa⟩
    rw [J3.out]
    have V5 := Lib.hid (V5.out.toExt hxa)
    have B3 := Lib.hid (B3.out.toExt hxa)
    have V3 := Lib.hid (VD.toExt V3.out hxa)
    have HX := Lib.hid (trans_ext HX.out hxa)
    have B4 := Lib.hid (B4.out.toExt hxa)
    have V4 := Lib.hid (V4.out.toExt hxa)
    clear hxa l3 k30 k31 k32 f3 l4 k40 f4
    go_wp2_with fail
    go_loopw [8, 9] (fun s i wr => ∃ k : Nat, i = .int .i64 k ∧ s = .int .i64 (cnP ps k : Nat) ∧ k ≤ ps.length ∧ ∃ y, wr = ext wa y) (fun _ i _ => ps.length - (intOf i).toNat)
    case atStart => exact ⟨0, rfl, by rw [cnP_zero]; rfl, by omega, refl_ext wa⟩
    case round =>
      obtain ⟨k, rfl, rfl, hk, hy⟩ := hrel
      obtain ⟨l4, k40, f4⟩ := bj1 (B4.out.toExt hy)
      by_cases hlt : k < ps.length
      · have hst := cnP_step ps k 0
        have hle := cnP_le ps (k + 1)
        have HST := Lib.hid hst
        clear hst
        go_wp2_with fail
        refine (JoinTreeChildren_any (by omega) (V4.out.toExt hy)).mono ?_
        rintro e wb ⟨vb, Fb, rfl, hxb, hSb, _⟩
        obtain ⟨Ab, ab, rfl, _, _⟩ := hSb.form
        have hlb := chl_length (k : Int) 0 ps
        obtain ⟨m, hm⟩ : ∃ m, (chl 0 (k : Int) ps).length = m := ⟨_, rfl⟩
        have HM := Lib.hid hm
        rw [hm] at hlb ⊢
        have hck := cnP_le ps k
        clear hm hSb
        go_wp2_with fail
        exact ⟨⟨k + 1, by go_num, by rw [HST.out, HM.out]; rw [show ((cnP ps k + m : Nat) : Int) = (cnP ps k : Int) + (m : Int) by omega], by omega, trans_ext hy hxb⟩, by simp [intOf]; omega⟩
      · have e0 : k = ps.length := by omega
        have HK := Lib.hid (show cnP ps k + 1 = ps.length by rw [e0]; exact J5.out)
        have hkk : (cnP ps k : Int) = (ps.length : Int) - 1 := by have := HK.out; omega
        have V5 := Lib.hid (V5.out.toExt hy)
        have B3 := Lib.hid (B3.out.toExt hy)
        have V3 := Lib.hid (VD.toExt V3.out hy)
        have HX := Lib.hid (trans_ext HX.out hy)
        have B4 := Lib.hid (B4.out.toExt hy)
        have V4 := Lib.hid (V4.out.toExt hy)
        clear l4 k40 f4 e0
        obtain ⟨l3, k30, k31, k32, f3⟩ := box3 B3.out
        obtain ⟨l4, k40, f4⟩ := bj1 B4.out
        go_wp2_with fail
        refine (IsValidJoinTree_any hqb V3.out (by omega) V4.out).mono ?_
        rintro e wc ⟨rfl, hxc⟩
        rw [J1.out]
        have V5 := Lib.hid (V5.out.toExt hxc)
        have B3 := Lib.hid (B3.out.toExt hxc)
        have V3 := Lib.hid (VD.toExt V3.out hxc)
        have HX := Lib.hid (trans_ext HX.out hxc)
        have B4 := Lib.hid (B4.out.toExt hxc)
        have V4 := Lib.hid (V4.out.toExt hxc)
        clear hxc l3 k30 k31 k32 f3 l4 k40 f4
        obtain ⟨l3, k30, k31, k32, f3⟩ := box3 B3.out
        obtain ⟨l4, k40, f4⟩ := bj1 B4.out
        go_wp2_with fail
        refine (specIsValidJoinTree_any hqb V3.out (by omega) V4.out).mono ?_
        rintro e wd ⟨rfl, hxd⟩
        rw [J1.out]
        have V5 := Lib.hid (V5.out.toExt hxd)
        have B3 := Lib.hid (B3.out.toExt hxd)
        have V3 := Lib.hid (VD.toExt V3.out hxd)
        have HX := Lib.hid (trans_ext HX.out hxd)
        have B4 := Lib.hid (B4.out.toExt hxd)
        have V4 := Lib.hid (V4.out.toExt hxd)
        clear hxd l3 k30 k31 k32 f3 l4 k40 f4
        obtain ⟨l3, k30, k31, k32, f3⟩ := box3 B3.out
        obtain ⟨l4, k40, f4⟩ := bj1 B4.out
        have hpe : ((ps.length : Int) == (q.2.1.length : Int)) = true := by rw [J2.out]; simp
        have hge : (0 : Int) ≤ (r : Int) := by omega
        go_wp2_with fail
        refine (lawHas_any h5l V5.out).mono ?_
        rintro e we ⟨rfl, hxe⟩
        rw [J4.out]
        have B3 := Lib.hid (B3.out.toExt hxe)
        have V3 := Lib.hid (VD.toExt V3.out hxe)
        have HX := Lib.hid (trans_ext HX.out hxe)
        have B4 := Lib.hid (B4.out.toExt hxe)
        have V4 := Lib.hid (V4.out.toExt hxe)
        clear hxe l3 k30 k31 k32 f3 l4 k40 f4
        obtain ⟨l4, k40, f4⟩ := bj1 B4.out
        go_wp2_with fail
        go_ret
        exact ⟨by simp, HX.out⟩

theorem law_JT (A : Option Addr) (c : Nat) (bs : List UInt8) (w : World) (hl : bs.length ≤ 9223372036854775807) (h1 : RU w A bs) : Calls Try.prog 6 #[.slice A bs.length c] w fun e w' => e = .returned (.bool true) ∧ ∃ y, w' = ext w y := by
  by_cases hb : 1048576 < bs.length
  · exact law_JT_big A c bs w hb hl
  · exact law_JT_m A c bs w (by omega) h1

set_option maxRecDepth 100000 in
theorem lifted_FnJoinTree (os : Os) (started : os.Started) (H : Type) (enc : TypeId × Value → H) :
    ReturnsInHanded {} Try.checked os 6 .any (Rows.fnJoinTreeSpec.pre6 enc Try.prog Try.f6 Rows.fnJoinTreeRow.domain false) (Rows.fnJoinTreeSpec.post enc Try.prog Try.f6 false true false false) := by
  refine returnsInHanded_of_change (C := Try.checked) Try.own started (by kernel_rfl) Try.func6 (ChangeSpec.witness6 (enc := enc) (C := Try.checked) false ⟨#[], #[.slice none 0 0], []⟩ 8 (by kernel_rfl) (by kernel_rfl) (by kernel_rfl) (by kernel_rfl)) ?_
  intro W base args ds gs before hval0 hW hcnd _
  have hval : ∀ (j : Nat) t v, Try.f6.params[j]? = some t → args[j]? = some v → Value.okWide Try.prog W .any base t v := hval0
  clear hval0 hcnd
  obtain ⟨_, _, hA0, hV0, _, _, _⟩ := id hW
  have hA : DataW.TrodAll enc Try.prog W 0 (fun _ => true) true Try.f6.params.toList args.toList ds _ := hA0
  clear hA0
  rw [Try.params6] at hA hval
  obtain ⟨v0, d0, rfl, rfl, h0⟩ := trodAll_one hA
  obtain ⟨x0, ⟨A0, c0, hc0, r0⟩, l0, _⟩ := openArg oBytes h0
  obtain rfl := one1 hc0 (okWide_slice Try.underlying37 (hval 0 _ v0 rfl rfl))
  refine (law_JT A0 _ x0 W (le_maxLen l0) r0).mono fun e W' ⟨he, hw⟩ => ?_
  exact ⟨_, he, law_post Try.laidOut hW rfl rfl rfl Try.underlying4 (by kernel_rfl) hw⟩

theorem fnJoinTree_and {a b : Bool} (ha : a = true) (hb : b = true) : (a && b) = true := by rw [ha, hb]; rfl
set_option maxHeartbeats 16000000 in
theorem fnJoinTree_closed : joinedFacts Try.checked.prog 6 Try.f6 Rows.fnJoinTreeSpec Rows.fnJoinTreeRow = true := by
  unfold joinedFacts
  repeat' (with_reducible refine fnJoinTree_and ?_ ?_)
  all_goals (as_aux_lemma => kernel_rfl)
theorem fnJoinTree_holds : Rows.FnJoinTreeSaid :=
  OpenClaim.holds_of_wide 6 Try.f6 rfl rfl rfl rfl rfl rfl rfl ⟨rfl, rfl, rfl, rfl, rfl⟩ rfl rfl rfl rfl rfl (by kernel_rfl) Try.func6 fnJoinTree_closed
    (of_decide_eq_true (by kernel_rfl)) (by unfold Func.isWrapper; rw [if_neg (of_decide_eq_false (by kernel_rfl))]; exact ⟨rfl, rfl⟩)
    (fun os started H enc _ => lifted_FnJoinTree os started H enc)

end Go.Proofs.Ytbjpkfgkmilkdaa
