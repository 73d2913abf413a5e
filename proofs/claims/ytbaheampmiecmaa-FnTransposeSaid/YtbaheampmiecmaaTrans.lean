/- The transposition of a matrix of rational numbers; the program's way and the reference's. -/
import Derived.Test.YtbaheampmiecmaaMat
import Derived.Test.YtbaheampmiecmaaRowsT
import Derived.Test.YtbaheampmiecmaaRats
import Derived.Test.YtbaheampmiecmaaNest
namespace Go.Proofs.Ytbaheampmiecmaa
open Go.RowKit

abbrev Rat2 := Int × Int
def row0 (xs : List (List Rat2)) : List Rat2 := xs.headD []
def colK (k : Nat) (xs : List (List Rat2)) : List Rat2 := xs.map fun r => r.getD k (0, 0)
def cols (n : Nat) (xs : List (List Rat2)) : List (List Rat2) := (List.range n).map fun k => colK k xs
def trOk (xs : List (List Rat2)) : Bool := !xs.isEmpty && xs.all (rowB (row0 xs).length)
def trR (xs : List (List Rat2)) : Option (List (List Rat2)) := if trOk xs = true then some (cols (row0 xs).length xs) else none
theorem row0_eq {xs : List (List Rat2)} (h : 0 < xs.length) : row0 xs = xs[0] := by
  cases xs with
  | nil => simp at h
  | cons x xs => rfl
theorem cols_succ (n : Nat) (xs : List (List Rat2)) : cols (n + 1) xs = cols n xs ++ [colK n xs] := by simp [cols, List.range_succ]
theorem colK_take {k i : Nat} {xs : List (List Rat2)} (h : i < xs.length) (hk : k < xs[i].length) : colK k (xs.take (i + 1)) = colK k (xs.take i) ++ [xs[i][k]] := by
  unfold colK
  rw [List.take_succ_eq_append_getElem h, List.map_append]
  simp [List.getD_eq_getElem?_getD, hk]
@[simp] theorem colK_length (k : Nat) (xs : List (List Rat2)) : (colK k xs).length = xs.length := by simp [colK]
@[simp] theorem cols_length (n : Nat) (xs : List (List Rat2)) : (cols n xs).length = n := by simp [cols]
theorem RV.atV0 {α : Type} {size : Nat} {E : VE α} {w : World} {A : Option Addr} {xs : List (List α)} {k : Nat} (h : RV 1 (vSl size E) w A xs) (hk : k < xs.length) : ∃ b o A0 c0 A' c', A = some ⟨b, o, none⟩ ∧ b < w.heap.size ∧ w.cell? ⟨b, o, none⟩ = some (.slice A0 (xs.headD []).length c0) ∧ RV size E w A0 (xs.headD []) ∧ w.cell? ⟨b, o + k, none⟩ = some (.slice A' xs[k].length c') ∧ RV size E w A' xs[k] := by
  obtain ⟨b, o, A0, c0, e, hb, hc, hv⟩ := h.atV (k := 0) (by omega)
  obtain ⟨b', o', A', c', e', _, hc', hv'⟩ := h.atV hk
  rw [e] at e'
  injection e' with e'
  injection e' with e1 e2
  subst e1 e2
  have e0 : xs.headD [] = xs[0]'(by omega) := by
    cases xs with
    | nil => simp at hk
    | cons x xs => rfl
  rw [e0]
  exact ⟨b, o, A0, c0, A', c', e, hb, hc, hv, hc', hv'⟩
theorem trOk_mem {xs : List (List Rat2)} (h : trOk xs = true) {i : Nat} (hi : i < xs.length) : xs[i].length = (row0 xs).length := by
  unfold trOk at h
  rw [Bool.and_eq_true, List.all_eq_true] at h
  exact (rowB_t (h.2 _ (List.getElem_mem hi))).1
theorem sum_const {α : Type} {f : α → Nat} {m : Nat} : ∀ {d : List α}, (∀ x ∈ d, f x = m) → (d.map f).sum = d.length * m
  | [], _ => by simp
  | x :: d, h => by
    rw [List.map_cons, List.sum_cons, h x (by simp), sum_const fun y hy => h y (by simp [hy]), List.length_cons, Nat.add_mul]
    omega
theorem trR_bd {d : List (List Rat2)} (h1 : d.length ≤ 1048576) (h2 : (d.map List.length).sum ≤ 1048576) : ((trR d).getD []).length ≤ 1048576 ∧ (((trR d).getD []).map List.length).sum ≤ 1048576 := by
  unfold trR
  split
  · rename_i hok
    have hok2 := hok
    unfold trOk at hok2
    rw [Bool.and_eq_true] at hok2
    have hne : 0 < d.length := by
      cases d with
      | nil => simp at hok2
      | cons x xs => simp
    have e1 : (d.map List.length).sum = d.length * (row0 d).length := sum_const fun x hx => by
      obtain ⟨i, hi, rfl⟩ := List.getElem_of_mem hx
      exact trOk_mem hok hi
    have e2 : ((cols (row0 d).length d).map List.length).sum = (cols (row0 d).length d).length * d.length := sum_const fun x hx => by
      unfold cols at hx
      obtain ⟨k, _, rfl⟩ := List.mem_map.1 hx
      simp
    simp only [Option.getD_some]
    rw [e2, cols_length]
    rw [e1] at h2
    have h3 : (row0 d).length ≤ d.length * (row0 d).length := Nat.le_mul_of_pos_left _ hne
    rw [Nat.mul_comm]
    omega
  · simp
/-- what both hand back -/
def TrRes (xs : List (List Rat2)) (w : World) (e : Ending) (w' : World) : Prop := ∃ v F, e = .returned (.tuple #[v, .bool (trR xs).isSome]) ∧ (∃ y, w' = ext w y) ∧ SV 24 1 (sSl 31 2 sR) w' v ((trR xs).getD []) F ∧ F.Nodup ∧ ∀ b ∈ F, w.heap.size ≤ b
theorem isEmpty_f {α : Type} {xs : List α} (h : 0 < xs.length) : (!xs.isEmpty) = true := by cases xs <;> simp_all

set_option maxHeartbeats 2000000 in
theorem Transpose_any {A : Option Addr} {c : Nat} {xs : List (List Rat2)} {w : World} (hx : xs.length ≤ 1000000000) (h1 : RRR w A xs) (hxl : ∀ x ∈ xs, x.length ≤ 1000000000) :
    Calls Try.prog 14 #[.slice A xs.length c] w (TrRes xs w) := by
  have Hxl := Lib.hid hxl
  clear hxl
  by_cases h0 : xs.length = 0
  · have e0 : xs = [] := List.eq_nil_of_length_eq_zero h0
    subst e0
    clear h0 hx h1
    go_enter Try.func14, Try.ntmps14
    go_wp2
    go_ret2
    exact ⟨_, [], rfl, refl_ext w, SV.nil, by simp, by simp⟩
  · have hpos : 0 < xs.length := by omega
    have hz : ((xs.length : Int) == 0) = false := by rw [beq_eq_false_iff_ne]; omega
    have hm0 : (row0 xs).length ≤ 1000000000 := by rw [row0_eq hpos]; exact Hxl.out _ (List.getElem_mem hpos)
    obtain ⟨m, hm⟩ : ∃ m, (row0 xs).length = m := ⟨_, rfl⟩
    have HM := Lib.hid hm
    have hT : trOk xs = xs.all (rowB m) := by unfold trOk; rw [isEmpty_f hpos, Bool.true_and, hm]
    rw [hm] at hm0
    have HT := Lib.hid hT
    clear h0 hm hT
    go_enter Try.func14, Try.ntmps14
    go_wp2
    go_loopw [15] (fun i wr => ∃ k : Nat, i = .int .i64 k ∧ k ≤ xs.length ∧ (xs.drop k).all (rowB m) = trOk xs ∧ ∃ y, wr = ext w y) (fun i _ => xs.length - (intOf i).toNat)
    case atStart => exact ⟨0, rfl, by omega, by rw [HT.out]; simp, refl_ext w⟩
    case round =>
      obtain ⟨k, rfl, hk, hj, hy⟩ := hrel
      have Hj := Lib.hid hj
      clear hj
      have h1' := h1.toExt hy
      by_cases hlt : k < xs.length
      · obtain ⟨b, o, A0, c0, A1, c1, rfl, hb, hc0, hv0, hc, hv⟩ := h1'.atV0 hlt
        rw [show (xs.headD []).length = m from HM.out] at hc0
        have hle := Hxl.out xs[k] (List.getElem_mem hlt)
        have e := Hj.out
        rw [all_step hlt] at e
        by_cases hlm : xs[k].length = m
        · rw [rowB_eq hlm] at e
          have hq := int_bnet hlm
          clear hlm
          cases hvr : allV xs[k] with
          | true =>
            rw [hvr, Bool.true_and] at e
            have He := Lib.hid e
            have Hv := Lib.hid hvr
            clear e hvr
            go_wp2_with (go_at_call 32; refine (allValid_any hle hv).mono ?_; rintro e w1 ⟨rfl, y1, rfl⟩; rw [Hv.out])
            exact ⟨⟨k + 1, by go_num, by omega, He.out, (by refine Chg.isExt (F := []) ?_ (refl_ext _) (by simp); repeat (with_reducible (first | exact Chg.refl _ _ | exact Nat.le_refl _ | exact Chg.ofExt (by assumption) | refine Chg.trans0 ?_ (by assumption) | refine Chg.extS ?_ _ | refine Chg.alloc ?_ _ | refine Chg.drew ?_ | refine Chg.setCellE ?_ ?_ _ | refine le_addk ?_ _ | refine le_ext ?_ | refine le_alloc ?_ _ | refine le_setC ?_ _ _ | refine le_drew ?_ | assumption | (refine Nat.le_of_lt ?_; omega) | omega)))⟩, by simp [intOf]; omega⟩
          | false =>
            rw [hvr, Bool.false_and] at e
            have He := Lib.hid (show trR xs = none by unfold trR; rw [← e]; rfl)
            have Hv := Lib.hid hvr
            clear e hvr
            go_wp2_with (go_at_call 32; refine (allValid_any hle hv).mono ?_; rintro e w1 ⟨rfl, y1, rfl⟩; rw [Hv.out])
            go_ret2
            exact ⟨_, [], by rw [He.out]; rfl, (by refine Chg.isExt (F := []) ?_ (refl_ext _) (by simp); repeat (with_reducible (first | exact Chg.refl _ _ | exact Nat.le_refl _ | exact Chg.ofExt (by assumption) | refine Chg.trans0 ?_ (by assumption) | refine Chg.extS ?_ _ | refine Chg.alloc ?_ _ | refine Chg.drew ?_ | refine Chg.setCellE ?_ ?_ _ | refine le_addk ?_ _ | refine le_ext ?_ | refine le_alloc ?_ _ | refine le_setC ?_ _ _ | refine le_drew ?_ | assumption | (refine Nat.le_of_lt ?_; omega) | omega))), by rw [He.out]; exact SV.nil, by simp, by simp⟩
        · rw [rowB_len hlm, Bool.false_and] at e
          have hq := int_bnef hlm
          have He := Lib.hid (show trR xs = none by unfold trR; rw [← e]; rfl)
          clear e hlm
          go_wp2
          go_ret2
          exact ⟨_, [], by rw [He.out]; rfl, (by refine Chg.isExt (F := []) ?_ (refl_ext _) (by simp); repeat (with_reducible (first | exact Chg.refl _ _ | exact Nat.le_refl _ | exact Chg.ofExt (by assumption) | refine Chg.trans0 ?_ (by assumption) | refine Chg.extS ?_ _ | refine Chg.alloc ?_ _ | refine Chg.drew ?_ | refine Chg.setCellE ?_ ?_ _ | refine le_addk ?_ _ | refine le_ext ?_ | refine le_alloc ?_ _ | refine le_setC ?_ _ _ | refine le_drew ?_ | assumption | (refine Nat.le_of_lt ?_; omega) | omega))), by rw [He.out]; exact SV.nil, by simp, by simp⟩
      · have e := Hj.out
        rw [all_endk hlt] at e
        have HO := Lib.hid e.symm
        have He := Lib.hid (show trR xs = some (cols m xs) by unfold trR; rw [← e, HM.out]; rfl)
        clear e
        obtain ⟨b, o, A0, c0, _, _, hA, hb, hc0, _, _, _⟩ := h1'.atV0 hpos
        rw [show (xs.headD []).length = m from HM.out] at hc0
        have h1'' := h1'
        subst hA
        go_wp2
        clear hlt Hj
        go_loopw [6, 36] (fun v i ws => ∃ (k : Nat) (F : List Nat), i = .int .i64 k ∧ k ≤ m ∧ SV 24 1 (sSl 31 2 sR) ws v (cols k xs) F ∧ F.Nodup ∧ (∀ b ∈ F, w.heap.size ≤ b) ∧ ∃ y, ws = ext w y) (fun _ i _ => m - (intOf i).toNat)
        case atStart => exact ⟨0, [], rfl, by omega, SV.nil, by simp, by simp, hy⟩
        case round =>
          obtain ⟨k, F, rfl, hk, hS, hN, hF, hy2⟩ := hrel
          have HF := Lib.hid hF
          have HN := Lib.hid hN
          clear hF hN
          by_cases hlt : k < m
          · go_wp2
            go_loopw [8, 41] (fun v i vs => ∃ (i' : Nat) (G : List Nat), i = .int .i64 i' ∧ i' ≤ xs.length ∧ SV 31 2 sR vs v (colK k (xs.take i')) G ∧ (∀ b ∈ G, wr.heap.size ≤ b) ∧ ∃ y, vs = ext wr y) (fun _ i _ => xs.length - (intOf i).toNat)
            case atStart => exact ⟨0, [], rfl, by omega, SV.nil, by simp, refl_ext _⟩
            case round =>
              obtain ⟨i, G, rfl, hi, hS2, hG, hy3⟩ := hrel
              have HG := Lib.hid hG
              clear hG
              by_cases hlt2 : i < xs.length
              · obtain ⟨b2, o2, A1, c1, hA1, hb2, hc2, hv⟩ := (h1.toExt (trans_ext hy2 hy3)).atV hlt2
                injection hA1 with hA1
                injection hA1 with e1 e2
                subst e1 e2
                have hlen := trOk_mem HO.out hlt2
                rw [HM.out] at hlen
                have hk3 : k < xs[i].length := by omega
                obtain ⟨b3, o3, rfl, hb3, hc3, hd3⟩ := hv.atR hk3
                have HC := Lib.hid (colK_take hlt2 hk3)
                have hlk : (colK k (xs.take i)).length + 1 ≤ 2000000000 := by simp; omega
                clear hlen
                go_wp2_with (at_builtin; refine wpList_app1 (E := sR) (d := xs[i][k]) rfl _ _ _ rfl tR rfl rfl rfl (by simp) (fun _ => ⟨rfl, rfl⟩) rfl (by simp [Value.oneCell']) hS2 hlk (by omega) ?_; intro v' w' F' hS' hC' hF')
                exact ⟨⟨i + 1, F', by go_num, by omega, by rw [HC.out]; exact hS', newer HG.out (size_of_ext (by refine Chg.isExt (F := []) ?_ (refl_ext _) (by simp); repeat (with_reducible (first | exact Chg.refl _ _ | exact Nat.le_refl _ | exact Chg.ofExt (by assumption) | refine Chg.trans0 ?_ (by assumption) | refine Chg.extS ?_ _ | refine Chg.alloc ?_ _ | refine Chg.drew ?_ | refine Chg.setCellE ?_ ?_ _ | refine le_addk ?_ _ | refine le_ext ?_ | refine le_alloc ?_ _ | refine le_setC ?_ _ _ | refine le_drew ?_ | assumption | (refine Nat.le_of_lt ?_; omega) | omega)))) hF', hC'.isExt (by refine Chg.isExt (F := []) ?_ (refl_ext _) (by simp); repeat (with_reducible (first | exact Chg.refl _ _ | exact Nat.le_refl _ | exact Chg.ofExt (by assumption) | refine Chg.trans0 ?_ (by assumption) | refine Chg.extS ?_ _ | refine Chg.alloc ?_ _ | refine Chg.drew ?_ | refine Chg.setCellE ?_ ?_ _ | refine le_addk ?_ _ | refine le_ext ?_ | refine le_alloc ?_ _ | refine le_setC ?_ _ _ | refine le_drew ?_ | assumption | (refine Nat.le_of_lt ?_; omega) | omega))) HG.out⟩, by simp [intOf]; omega⟩
              · rw [List.take_of_length_le (by omega)] at hS2
                obtain ⟨A2, c2, rfl, _, _⟩ := hS2.form
                rw [colK_length] at hS2
                have HC := Lib.hid (cols_succ k xs)
                have hlk : (cols k xs).length + 1 ≤ 2000000000 := by simp; omega
                have hN2 := nodup_more HN.out hS2.nodup hS.lt HG.out
                go_wp2_with (at_builtin; refine wpList_appN (E := sSl 31 2 sR) (d := colK k xs) (G := G) rfl _ _ _ rfl tRRr rfl rfl rfl (by simp) ⟨_, rfl, hS2⟩ rfl (by simp [Value.oneCell']) (hS.toExt hy3) hN2 hlk (by omega) ?_; intro v' w' F' hS' hC' hN' hF')
                exact ⟨⟨k + 1, F', by go_num, by omega, by rw [HC.out]; exact hS', hN', (fun b hb => by
                  rcases hF' b hb with h | h | h
                  · exact HF.out b h
                  · exact Nat.le_trans (size_of_ext hy2) (HG.out b h)
                  · exact Nat.le_trans (size_of_ext (trans_ext hy2 hy3)) h), hC'.isExt (trans_ext hy2 hy3) HF.out⟩, by simp [intOf]; omega⟩
          · go_wp2
            go_ret2
            have ek : k = m := by omega
            subst ek
            exact ⟨_, F, by rw [He.out]; rfl, hy2, by rw [He.out]; exact hS, HN.out, HF.out⟩
theorem trR_sq {xs : List (List Rat2)} (h : 0 < xs.length) : trOk xs = sqB xs xs.length (row0 xs).length := by
  unfold trOk sqB
  rw [isEmpty_f h]
  simp
set_option maxHeartbeats 2000000 in
theorem specTranspose_any {A : Option Addr} {c : Nat} {xs : List (List Rat2)} {w : World} (hx : xs.length ≤ 1000000000) (h1 : RRR w A xs) (hxl : ∀ x ∈ xs, x.length ≤ 1000000000) :
    Calls Try.prog 15 #[.slice A xs.length c] w (TrRes xs w) := by
  by_cases h0 : xs.length = 0
  · have e0 : xs = [] := List.eq_nil_of_length_eq_zero h0
    subst e0
    clear h0 hx h1 hxl
    go_enter Try.func15, Try.ntmps15
    go_wp2
    go_ret2
    exact ⟨_, _, rfl, (by refine Chg.isExt (F := []) ?_ (refl_ext _) (by simp); repeat (with_reducible (first | exact Chg.refl _ _ | exact Nat.le_refl _ | exact Chg.ofExt (by assumption) | refine Chg.trans0 ?_ (by assumption) | refine Chg.extS ?_ _ | refine Chg.alloc ?_ _ | refine Chg.drew ?_ | refine Chg.setCellE ?_ ?_ _ | refine le_addk ?_ _ | refine le_ext ?_ | refine le_alloc ?_ _ | refine le_setC ?_ _ _ | refine le_drew ?_ | assumption | (refine Nat.le_of_lt ?_; omega) | omega))), SV.empty _, by simp, by simp⟩
  · have hpos : 0 < xs.length := by omega
    have hz : ((xs.length : Int) == 0) = false := by rw [beq_eq_false_iff_ne]; omega
    have hm0 : (row0 xs).length ≤ 1000000000 := by rw [row0_eq hpos]; exact hxl _ (List.getElem_mem hpos)
    obtain ⟨m, hm⟩ : ∃ m, (row0 xs).length = m := ⟨_, rfl⟩
    have HM := Lib.hid hm
    have hT := trR_sq hpos
    rw [hm] at hm0 hT
    have Hxl := Lib.hid hxl
    clear h0 hm hxl
    obtain ⟨b, o, A0, c0, _, _, hA, hb, hc0, _, _, _⟩ := h1.atV0 hpos
    rw [show (xs.headD []).length = m from HM.out] at hc0
    subst hA
    cases hok : sqB xs xs.length m with
    | false =>
      have He := Lib.hid (show trR xs = none by unfold trR; rw [hT, hok]; rfl)
      have Hok := Lib.hid hok
      clear hok hT
      go_enter Try.func15, Try.ntmps15
      go_wp2_with (go_at_call 33; refine (l13Square_any hx (h1.toExt (by refine Chg.isExt (F := []) ?_ (refl_ext _) (by simp); repeat (with_reducible (first | exact Chg.refl _ _ | exact Nat.le_refl _ | exact Chg.ofExt (by assumption) | refine Chg.trans0 ?_ (by assumption) | refine Chg.extS ?_ _ | refine Chg.alloc ?_ _ | refine Chg.drew ?_ | refine Chg.setCellE ?_ ?_ _ | refine le_addk ?_ _ | refine le_ext ?_ | refine le_alloc ?_ _ | refine le_setC ?_ _ _ | refine le_drew ?_ | assumption | (refine Nat.le_of_lt ?_; omega) | omega)))) Hxl.out hx hm0).mono ?_; rintro e w1 ⟨rfl, hx1⟩; rw [Hok.out])
      go_ret2
      exact ⟨_, [w.heap.size], by rw [He.out]; rfl, (by refine Chg.isExt (F := []) ?_ (refl_ext _) (by simp); repeat (with_reducible (first | exact Chg.refl _ _ | exact Nat.le_refl _ | exact Chg.ofExt (by assumption) | refine Chg.trans0 ?_ (by assumption) | refine Chg.extS ?_ _ | refine Chg.alloc ?_ _ | refine Chg.drew ?_ | refine Chg.setCellE ?_ ?_ _ | refine le_addk ?_ _ | refine le_ext ?_ | refine le_alloc ?_ _ | refine le_setC ?_ _ _ | refine le_drew ?_ | assumption | (refine Nat.le_of_lt ?_; omega) | omega))), by rw [He.out]; exact (SV.empty w).toExt hx1, by simp, by simp⟩
    | true =>
      have HO := Lib.hid (hT.trans hok)
      have He := Lib.hid (show trR xs = some (cols m xs) by unfold trR; rw [hT, hok, HM.out]; rfl)
      have Hok := Lib.hid hok
      clear hok hT
      go_enter Try.func15, Try.ntmps15
      go_wp2_with (go_at_call 33; refine (l13Square_any hx (h1.toExt (by refine Chg.isExt (F := []) ?_ (refl_ext _) (by simp); repeat (with_reducible (first | exact Chg.refl _ _ | exact Nat.le_refl _ | exact Chg.ofExt (by assumption) | refine Chg.trans0 ?_ (by assumption) | refine Chg.extS ?_ _ | refine Chg.alloc ?_ _ | refine Chg.drew ?_ | refine Chg.setCellE ?_ ?_ _ | refine le_addk ?_ _ | refine le_ext ?_ | refine le_alloc ?_ _ | refine le_setC ?_ _ _ | refine le_drew ?_ | assumption | (refine Nat.le_of_lt ?_; omega) | omega)))) Hxl.out hx hm0).mono ?_; rintro e w1 ⟨rfl, hx1⟩; rw [Hok.out])
      go_loopw [4, 5] (fun v i ws => ∃ (k : Nat) (F : List Nat), i = .int .i64 k ∧ k ≤ m ∧ SV 24 1 (sSl 31 2 sR) ws v (cols k xs) F ∧ F.Nodup ∧ (∀ b ∈ F, w.heap.size ≤ b) ∧ ∃ y, ws = ext w y) (fun _ i _ => m - (intOf i).toNat)
      case atStart => exact ⟨0, [w.heap.size], rfl, by omega, (SV.empty w).toExt hx1, by simp, by simp, (by refine Chg.isExt (F := []) ?_ (refl_ext _) (by simp); repeat (with_reducible (first | exact Chg.refl _ _ | exact Nat.le_refl _ | exact Chg.ofExt (by assumption) | refine Chg.trans0 ?_ (by assumption) | refine Chg.extS ?_ _ | refine Chg.alloc ?_ _ | refine Chg.drew ?_ | refine Chg.setCellE ?_ ?_ _ | refine le_addk ?_ _ | refine le_ext ?_ | refine le_alloc ?_ _ | refine le_setC ?_ _ _ | refine le_drew ?_ | assumption | (refine Nat.le_of_lt ?_; omega) | omega)))⟩
      case round =>
        obtain ⟨k, F, rfl, hk, hS, hN, hF, ⟨y2, rfl⟩⟩ := hrel
        have HF := Lib.hid hF
        have HN := Lib.hid hN
        clear hF hN
        by_cases hlt : k < m
        · go_wp2
          go_loopw [6, 7] (fun v i vs => ∃ (i' : Nat) (G : List Nat), i = .int .i64 i' ∧ i' ≤ xs.length ∧ SV 31 2 sR vs v (colK k (xs.take i')) G ∧ (∀ b ∈ G, (ext w y2).heap.size ≤ b) ∧ ∃ y, vs = ext (ext w y2) y) (fun _ i _ => xs.length - (intOf i).toNat)
          case atStart => exact ⟨0, [(ext w y2).heap.size], rfl, by omega, SV.empty _, by simp, alloc_ext _ _⟩
          case round =>
            obtain ⟨i, G, rfl, hi, hS2, hG, hy3⟩ := hrel
            have HG := Lib.hid hG
            clear hG
            by_cases hlt2 : i < xs.length
            · obtain ⟨b2, o2, A1, c1, hA1, hb2, hc2, hv⟩ := (h1.toExt (trans_ext ⟨y2, rfl⟩ hy3)).atV hlt2
              injection hA1 with hA1
              injection hA1 with e1 e2
              subst e1 e2
              have hlen := trOk_mem HO.out hlt2
              rw [HM.out] at hlen
              have hk3 : k < xs[i].length := by omega
              obtain ⟨b3, o3, rfl, hb3, hc3, hd3⟩ := hv.atR hk3
              have HC := Lib.hid (colK_take hlt2 hk3)
              have hlk : (colK k (xs.take i)).length + 1 ≤ 2000000000 := by simp; omega
              clear hlen
              go_wp2_with (at_builtin; refine wpList_app1 (E := sR) (d := xs[i][k]) rfl _ _ _ rfl tR rfl rfl rfl (by simp) (fun _ => ⟨rfl, rfl⟩) rfl (by simp [Value.oneCell']) hS2 hlk (by omega) ?_; intro v' w' F' hS' hC' hF')
              exact ⟨⟨i + 1, F', by go_num, by omega, by rw [HC.out]; exact hS', newer HG.out (size_of_ext (by refine Chg.isExt (F := []) ?_ (refl_ext _) (by simp); repeat (with_reducible (first | exact Chg.refl _ _ | exact Nat.le_refl _ | exact Chg.ofExt (by assumption) | refine Chg.trans0 ?_ (by assumption) | refine Chg.extS ?_ _ | refine Chg.alloc ?_ _ | refine Chg.drew ?_ | refine Chg.setCellE ?_ ?_ _ | refine le_addk ?_ _ | refine le_ext ?_ | refine le_alloc ?_ _ | refine le_setC ?_ _ _ | refine le_drew ?_ | assumption | (refine Nat.le_of_lt ?_; omega) | omega)))) hF', hC'.isExt (by refine Chg.isExt (F := []) ?_ (refl_ext _) (by simp); repeat (with_reducible (first | exact Chg.refl _ _ | exact Nat.le_refl _ | exact Chg.ofExt (by assumption) | refine Chg.trans0 ?_ (by assumption) | refine Chg.extS ?_ _ | refine Chg.alloc ?_ _ | refine Chg.drew ?_ | refine Chg.setCellE ?_ ?_ _ | refine le_addk ?_ _ | refine le_ext ?_ | refine le_alloc ?_ _ | refine le_setC ?_ _ _ | refine le_drew ?_ | assumption | (refine Nat.le_of_lt ?_; omega) | omega))) HG.out⟩, by simp [intOf]; omega⟩
            · rw [List.take_of_length_le (by omega)] at hS2
              obtain ⟨A2, c2, rfl, _, _⟩ := hS2.form
              rw [colK_length] at hS2
              have HC := Lib.hid (cols_succ k xs)
              have hlk : (cols k xs).length + 1 ≤ 2000000000 := by simp; omega
              have hN2 := nodup_more HN.out hS2.nodup hS.lt HG.out
              go_wp2_with (at_builtin; refine wpList_appN (E := sSl 31 2 sR) (d := colK k xs) (G := G) rfl _ _ _ rfl tRRr rfl rfl rfl (by simp) ⟨_, rfl, hS2⟩ rfl (by simp [Value.oneCell']) (hS.toExt hy3) hN2 hlk (by omega) ?_; intro v' w' F' hS' hC' hN' hF')
              exact ⟨⟨k + 1, F', by go_num, by omega, by rw [HC.out]; exact hS', hN', (fun b hb => by
                rcases hF' b hb with h | h | h
                · exact HF.out b h
                · exact Nat.le_trans size_ext (HG.out b h)
                · exact Nat.le_trans (size_of_ext (trans_ext ⟨y2, rfl⟩ hy3)) h), hC'.isExt (trans_ext ⟨y2, rfl⟩ hy3) HF.out⟩, by simp [intOf]; omega⟩
        · go_wp2
          go_ret2
          have ek : k = m := by omega
          subst ek
          exact ⟨_, F, by rw [He.out]; rfl, ⟨y2, rfl⟩, by rw [He.out]; exact hS, HN.out, HF.out⟩
end Go.Proofs.Ytbaheampmiecmaa
