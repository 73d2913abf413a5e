/- Contracts of functions that the statements reach, joined from several texts: ValidQ, FmtQ, Near, BindPl, Glue, SemiI, Draw8, DrawJ, JoinI, Both. -/
import Derived.Test.YtfigcfajkilhiaaD04
import Derived.Test.YtfigcfajkilhiaaD02
import Derived.Deep.RegionLaw
import Derived.Test.YtfigcfajkilhiaaD03
import Derived.Deep.DrawnRows
import Derived.Deep.DeepCutAuto
/- Whether a query is valid; the program's way and the reference's. -/
namespace Go.Proofs.Ytfigcfajkilhiaa
open Go.RowKit

def atomB (n : Int) (x : At) : Bool := nameB x.1 && inB x.2.length 1 5 && x.2.all fun v => inB v 0 (n - 1)
def seen (ats : List At) : List Int := ats.flatMap (·.2)
def mkU (n : Nat) (s : List Int) : List Bool := (List.range n).map fun (v : Nat) => decide ((v : Int) ∈ s)
def coverB (n : Int) (ats : List At) : Bool := (mkU n.toNat (seen ats)).all id
def vqB (d : Qd) : Bool := inB d.1 1 5 && inB d.2.1.length 1 4 && setB d.1 [] d.2.2 && d.2.1.all (atomB d.1) && coverB d.1 d.2.1
@[simp] theorem mkU_length (n : Nat) (s : List Int) : (mkU n s).length = n := by simp [mkU]
theorem mkU_nil (n : Nat) : mkU n [] = List.replicate n false := by
  unfold mkU
  apply List.ext_getElem
  · simp
  · intro i h1 h2
    simp
theorem mkU_set {n : Nat} {s : List Int} {v : Int} (h0 : 0 ≤ v) : (mkU n s).set v.toNat true = mkU n (s ++ [v]) := by
  apply List.ext_getElem
  · simp
  · intro i h1 h2
    rw [List.getElem_set]
    unfold mkU
    simp only [List.getElem_map, List.getElem_range, List.mem_append, List.mem_singleton]
    split
    · rename_i h
      subst h
      simp
      right; omega
    · rename_i h
      have : ¬ ((i : Int) = v) := by rintro rfl; exact h (by simp)
      simp [this]
theorem seen_take {ats : List At} {k : Nat} (h : k < ats.length) : seen (ats.take (k + 1)) = seen (ats.take k) ++ ats[k].2 := by
  unfold seen
  rw [List.take_succ_eq_append_getElem h, List.flatMap_append]
  simp
theorem allA_step {α : Type} {p : α → Bool} {xs : List α} {k : Nat} (h : k < xs.length) : (xs.drop k).all p = (p xs[k] && (xs.drop (k + 1)).all p) := by
  rw [List.drop_eq_getElem_cons h, List.all_cons]
theorem allA_end {α : Type} {p : α → Bool} {xs : List α} {k : Nat} (h : ¬ k < xs.length) : (xs.drop k).all p = true := by
  rw [List.drop_eq_nil_of_le (by omega)]; rfl
theorem tB : SlT Try.prog 180 4 1 1 (.bool false) := ⟨Try.underlying180, by kernel_rfl, rfl, by omega⟩
set_option maxRecDepth 4000 in
set_option maxHeartbeats 4000000 in
theorem IsValidQuery_w {A B : Option Addr} {c e1 : Nat} {d : Qd} {w : World} (hb : WQ d) (h : vQ w [.int .i64 d.1, .slice A d.2.1.length c, .slice B d.2.2.length e1] d) :
    Calls Try.prog 156 #[.agg #[.int .i64 d.1, .slice A d.2.1.length c, .slice B d.2.2.length e1]] w fun e w' => e = .returned (.bool (vqB d)) ∧ ∃ y, w' = ext w y := by
  obtain ⟨r1, r2, hcap⟩ := vQ_get h
  obtain ⟨hz, b1, b2⟩ := hb
  obtain ⟨z, ats, out⟩ := d
  dsimp only at r1 r2 hcap hz b1 b2 ⊢
  have r1 := (vAts_get r1).2
  have m2 : out.length ≤ 1000000000 := by omega
  have b4 := b1.1
  have Hx := Lib.hid b1.2
  clear h b1
  obtain ⟨t1, ht1⟩ : ∃ t, inB z 1 5 = t := ⟨_, rfl⟩
  obtain ⟨t2, ht2⟩ : ∃ t, inB ats.length 1 4 = t := ⟨_, rfl⟩
  obtain ⟨t3, ht3⟩ : ∃ t, setB z [] out = t := ⟨_, rfl⟩
  have N1 := Lib.hid ht1
  have N2 := Lib.hid ht2
  have N3 := Lib.hid ht3
  have HE := Lib.hid (show vqB (z, ats, out) = (t1 && t2 && t3 && ats.all (atomB z) && coverB z ats) by unfold vqB; rw [ht1, ht2, ht3])
  clear ht1 ht2 ht3
  cases t1 with
  | false =>
    go_enter Try.func156, Try.ntmps156
    go_wp2_with (go_at_call 121; refine (within_any _ _ _ _).mono ?_; rintro e w' ⟨rfl, rfl⟩; (first | rw [N1.out] | rw [N2.out]))
    go_ret
    exact ⟨by rw [HE.out]; rfl, (by refine Chg.isExt (F := []) ?_ (refl_ext _) (by simp); repeat (with_reducible (first | exact Chg.refl _ _ | exact Nat.le_refl _ | exact Chg.ofExt (by assumption) | refine Chg.trans0 ?_ (by assumption) | refine Chg.extS ?_ _ | refine Chg.alloc ?_ _ | refine Chg.drew ?_ | refine Chg.setCellE ?_ ?_ _ | refine le_addk ?_ _ | refine le_ext ?_ | refine le_alloc ?_ _ | refine le_setC ?_ _ _ | refine le_drew ?_ | assumption | (refine Nat.le_of_lt ?_; omega) | omega)))⟩
  | true =>
    have hn := inB_t N1.out
    obtain ⟨n, rfl⟩ : ∃ n : Nat, z = n := ⟨z.toNat, by omega⟩
    have hn1 : n ≤ 5 := by omega
    have hn2 : 1 ≤ n := by omega
    clear hn hz
    cases t2 with
    | false =>
      go_enter Try.func156, Try.ntmps156
      go_wp2_with (go_at_call 121; refine (within_any _ _ _ _).mono ?_; rintro e w' ⟨rfl, rfl⟩; (first | rw [N1.out] | rw [N2.out]))
      go_ret
      exact ⟨by rw [HE.out]; rfl, (by refine Chg.isExt (F := []) ?_ (refl_ext _) (by simp); repeat (with_reducible (first | exact Chg.refl _ _ | exact Nat.le_refl _ | exact Chg.ofExt (by assumption) | refine Chg.trans0 ?_ (by assumption) | refine Chg.extS ?_ _ | refine Chg.alloc ?_ _ | refine Chg.drew ?_ | refine Chg.setCellE ?_ ?_ _ | refine le_addk ?_ _ | refine le_ext ?_ | refine le_alloc ?_ _ | refine le_setC ?_ _ _ | refine le_drew ?_ | assumption | (refine Nat.le_of_lt ?_; omega) | omega)))⟩
    | true =>
      cases t3 with
      | false =>
        go_enter Try.func156, Try.ntmps156
        go_wp2_with (first
          | (go_at_call 121; refine (within_any _ _ _ _).mono ?_; rintro e w' ⟨rfl, rfl⟩; (first | rw [N1.out] | rw [N2.out]))
          | (go_at_call 188; refine (isSetOf_any m2 hcap (r2.toExt (by refine Chg.isExt (F := []) ?_ (refl_ext _) (by simp); repeat (with_reducible (first | exact Chg.refl _ _ | exact Nat.le_refl _ | exact Chg.ofExt (by assumption) | refine Chg.trans0 ?_ (by assumption) | refine Chg.extS ?_ _ | refine Chg.alloc ?_ _ | refine Chg.drew ?_ | refine Chg.setCellE ?_ ?_ _ | refine le_addk ?_ _ | refine le_ext ?_ | refine le_alloc ?_ _ | refine le_setC ?_ _ _ | refine le_drew ?_ | assumption | (refine Nat.le_of_lt ?_; omega) | omega)))) (by omega) (by omega)).mono ?_; rintro e w1 ⟨rfl, y1, rfl⟩; rw [N3.out]))
        go_ret
        exact ⟨by rw [HE.out]; rfl, (by refine Chg.isExt (F := []) ?_ (refl_ext _) (by simp); repeat (with_reducible (first | exact Chg.refl _ _ | exact Nat.le_refl _ | exact Chg.ofExt (by assumption) | refine Chg.trans0 ?_ (by assumption) | refine Chg.extS ?_ _ | refine Chg.alloc ?_ _ | refine Chg.drew ?_ | refine Chg.setCellE ?_ ?_ _ | refine le_addk ?_ _ | refine le_ext ?_ | refine le_alloc ?_ _ | refine le_setC ?_ _ _ | refine le_drew ?_ | assumption | (refine Nat.le_of_lt ?_; omega) | omega)))⟩
      | true =>
        have HF := Lib.hid (show ats.all (atomB n) = false → vqB ((n : Int), ats, out) = false by rw [HE.out]; intro h; rw [h]; rfl)
        have HT := Lib.hid (show ats.all (atomB n) = true → vqB ((n : Int), ats, out) = (mkU n (seen ats)).all id by rw [HE.out]; intro h; rw [h]; rfl)
        have HU0 := Lib.hid (mkU_nil n)
        go_enter Try.func156, Try.ntmps156
        go_wp2_with (first
          | (go_at_call 121; refine (within_any _ _ _ _).mono ?_; rintro e w' ⟨rfl, rfl⟩; (first | rw [N1.out] | rw [N2.out]))
          | (go_at_call 188; refine (isSetOf_any m2 hcap (r2.toExt (by refine Chg.isExt (F := []) ?_ (refl_ext _) (by simp); repeat (with_reducible (first | exact Chg.refl _ _ | exact Nat.le_refl _ | exact Chg.ofExt (by assumption) | refine Chg.trans0 ?_ (by assumption) | refine Chg.extS ?_ _ | refine Chg.alloc ?_ _ | refine Chg.drew ?_ | refine Chg.setCellE ?_ ?_ _ | refine le_addk ?_ _ | refine le_ext ?_ | refine le_alloc ?_ _ | refine le_setC ?_ _ _ | refine le_drew ?_ | assumption | (refine Nat.le_of_lt ?_; omega) | omega)))) (by omega) (by omega)).mono ?_; rintro e w1 ⟨rfl, hx1⟩; rw [N3.out]; have P1 := (BoxAt.new w #[.int .i64 (n : Int), .slice A ats.length c, .slice B out.length e1] 55).toExt hx1; obtain ⟨l1, a1, a1', a1'', f1⟩ := box3 P1)
          | (at_make; refine wpList_makeS (E := sB) (d := false) (n := n) _ rfl _ _ _ rfl tB rfl rfl (fun _ => ⟨rfl, rfl⟩) (by omega) (by omega) ?_; intro w2 hS hx2 hg2; have P2 := P1.toExt hx2; obtain ⟨l2, a2, a2', a2'', f2⟩ := box3 P2))
        have hg1 := size_of_ext hx1
        simp only [World.size_alloc] at hg1
        rw [← HU0.out] at hS
        go_loopw [35] (fun i wr => ∃ k : Nat, i = .int .i64 k ∧ k ≤ ats.length ∧ SV 4 1 sB wr (.slice (some ⟨w1.heap.size, 0, none⟩) n n) (mkU n (seen (ats.take k))) [w1.heap.size] ∧ (∃ y, wr = ext w y) ∧ (ats.drop k).all (atomB n) = ats.all (atomB n)) (fun i _ => ats.length - (intOf i).toNat)
        case atStart => exact ⟨0, rfl, by omega, by simpa [seen] using hS, (by refine Chg.isExt (F := []) ?_ (refl_ext _) (by simp); repeat (with_reducible (first | exact Chg.refl _ _ | exact Nat.le_refl _ | exact Chg.ofExt (by assumption) | refine Chg.trans0 ?_ (by assumption) | refine Chg.extS ?_ _ | refine Chg.alloc ?_ _ | refine Chg.drew ?_ | refine Chg.setCellE ?_ ?_ _ | refine le_addk ?_ _ | refine le_ext ?_ | refine le_alloc ?_ _ | refine le_setC ?_ _ _ | refine le_drew ?_ | assumption | (refine Nat.le_of_lt ?_; omega) | omega))), by simp⟩
        case round =>
          obtain ⟨k, rfl, hk, hS, hy, hj⟩ := hrel
          have Hj := Lib.hid hj
          clear hj
          by_cases hlt : k < ats.length
          · obtain ⟨b, o, A', c', rfl, hb0, hc0, hd0, hv0⟩ := r1.atA hlt
            have hb : b < wr.heap.size := Nat.lt_of_lt_of_le hb0 (size_of_ext hy)
            have hc : wr.cell? ⟨b, o + k * 2, none⟩ = some (.string ats[k].1) := by obtain ⟨y, e⟩ := hy; rw [e, cell_ext hb0]; exact hc0
            have hd : wr.cell? ⟨b, o + k * 2 + 1, none⟩ = some (.slice A' ats[k].2.length c') := by obtain ⟨y, e⟩ := hy; rw [e, cell_ext hb0]; exact hd0
            clear hc0 hd0
            have hle := Hx.out ats[k] (List.getElem_mem hlt)
            obtain ⟨x1, x2⟩ := hle
            have x3 : ats[k].1.size ≤ 1000000000 := by omega
            have e := Hj.out
            rw [allA_step hlt] at e
            have HS := Lib.hid hS
            have Hst := Lib.hid (seen_take hlt)
            obtain ⟨s, hs⟩ : ∃ s, ats[k].1 = s := ⟨_, rfl⟩
            obtain ⟨xs, hxs⟩ : ∃ xs, ats[k].2 = xs := ⟨_, rfl⟩
            have ea : atomB n ats[k] = (nameB s && inB xs.length 1 5 && xs.all fun v => inB v 0 ((n : Int) - 1)) := by unfold atomB; rw [hs, hxs]
            rw [ea] at e
            have Hst : Hid (seen (ats.take (k + 1)) = seen (ats.take k) ++ xs) := Lib.hid (by rw [Hst.out, hxs])
            rw [hs] at hc x3
            rw [hxs] at hd hv0 x2
            obtain ⟨t4, ht4⟩ : ∃ t, nameB s = t := ⟨_, rfl⟩
            obtain ⟨t5, ht5⟩ : ∃ t, inB xs.length 1 5 = t := ⟨_, rfl⟩
            rw [ht4, ht5] at e
            have N4 := Lib.hid ht4
            have N5 := Lib.hid ht5
            have He := Lib.hid e
            clear e ea hs hxs ht4 ht5 hS x1
            cases t4 with
            | false =>
              go_wp2_with (go_at_call 144; refine (IsValidName_any x3).mono ?_; rintro e w' ⟨rfl, rfl⟩; rw [N4.out])
              go_ret
              exact ⟨by rw [HF.out He.out.symm]; rfl, (by refine Chg.isExt (F := []) ?_ (refl_ext _) (by simp); repeat (with_reducible (first | exact Chg.refl _ _ | exact Nat.le_refl _ | exact Chg.ofExt (by assumption) | refine Chg.trans0 ?_ (by assumption) | refine Chg.extS ?_ _ | refine Chg.alloc ?_ _ | refine Chg.drew ?_ | refine Chg.setCellE ?_ ?_ _ | refine le_addk ?_ _ | refine le_ext ?_ | refine le_alloc ?_ _ | refine le_setC ?_ _ _ | refine le_drew ?_ | assumption | (refine Nat.le_of_lt ?_; omega) | omega)))⟩
            | true =>
              cases t5 with
              | false =>
                go_wp2_with (first
                  | (go_at_call 144; refine (IsValidName_any x3).mono ?_; rintro e w' ⟨rfl, rfl⟩; rw [N4.out])
                  | (go_at_call 121; refine (within_any _ _ _ _).mono ?_; rintro e w' ⟨rfl, rfl⟩; rw [N5.out]))
                go_ret
                exact ⟨by rw [HF.out He.out.symm]; rfl, (by refine Chg.isExt (F := []) ?_ (refl_ext _) (by simp); repeat (with_reducible (first | exact Chg.refl _ _ | exact Nat.le_refl _ | exact Chg.ofExt (by assumption) | refine Chg.trans0 ?_ (by assumption) | refine Chg.extS ?_ _ | refine Chg.alloc ?_ _ | refine Chg.drew ?_ | refine Chg.setCellE ?_ ?_ _ | refine le_addk ?_ _ | refine le_ext ?_ | refine le_alloc ?_ _ | refine le_setC ?_ _ _ | refine le_drew ?_ | assumption | (refine Nat.le_of_lt ?_; omega) | omega)))⟩
              | true =>
                go_wp2_with (first
                  | (go_at_call 144; refine (IsValidName_any x3).mono ?_; rintro e w' ⟨rfl, rfl⟩; rw [N4.out])
                  | (go_at_call 121; refine (within_any _ _ _ _).mono ?_; rintro e w' ⟨rfl, rfl⟩; rw [N5.out]))
                have hyw : ∃ y, wr.alloc (.cells #[.string s, .slice A' xs.length c'] 81) = ext wr y := alloc_ext _ _
                go_loopw [53] (fun i vs => ∃ j : Nat, i = .int .i64 j ∧ j ≤ xs.length ∧ SV 4 1 sB vs (.slice (some ⟨w1.heap.size, 0, none⟩) n n) (mkU n (seen (ats.take k) ++ xs.take j)) [w1.heap.size] ∧ (∃ y, vs = ext w y) ∧ (xs.drop j).all (fun v => inB v 0 ((n : Int) - 1)) = xs.all fun v => inB v 0 ((n : Int) - 1)) (fun i _ => xs.length - (intOf i).toNat)
                case atStart => exact ⟨0, rfl, by omega, by simpa using HS.out.toExt hyw, (by refine Chg.isExt (F := []) ?_ (refl_ext _) (by simp); repeat (with_reducible (first | exact Chg.refl _ _ | exact Nat.le_refl _ | exact Chg.ofExt (by assumption) | refine Chg.trans0 ?_ (by assumption) | refine Chg.extS ?_ _ | refine Chg.alloc ?_ _ | refine Chg.drew ?_ | refine Chg.setCellE ?_ ?_ _ | refine le_addk ?_ _ | refine le_ext ?_ | refine le_alloc ?_ _ | refine le_setC ?_ _ _ | refine le_drew ?_ | assumption | (refine Nat.le_of_lt ?_; omega) | omega))), by simp⟩
                case round =>
                  obtain ⟨j, rfl, hj1, hS2, hy2, hj⟩ := hrel
                  have Hj2 := Lib.hid hj
                  have HS2 := Lib.hid hS2
                  clear hj
                  by_cases hlt2 : j < xs.length
                  · obtain ⟨b3, o3, rfl, hb3, hc3⟩ := (hv0.toExt hy2).atI hlt2
                    have e := Hj2.out
                    rw [allA_step hlt2] at e
                    obtain ⟨v, hvv⟩ : ∃ v, xs[j] = v := ⟨_, rfl⟩
                    have Hv := Lib.hid hvv
                    rw [hvv] at e hc3
                    obtain ⟨t6, ht6⟩ : ∃ t, inB v 0 ((n : Int) - 1) = t := ⟨_, rfl⟩
                    rw [ht6] at e
                    have N6 := Lib.hid ht6
                    have He2 := Lib.hid e
                    clear e hvv ht6
                    cases t6 with
                    | false =>
                      have HB := Lib.hid (show ats.all (atomB n) = false by rw [← He.out, ← He2.out]; rfl)
                      clear hS2
                      go_wp2_with (go_at_call 121; refine (within_any _ _ _ _).mono ?_; rintro e w' ⟨rfl, rfl⟩; rw [N6.out])
                      go_ret
                      exact ⟨by rw [HF.out HB.out]; rfl, hy2⟩
                    | true =>
                      have hvb := inB_t N6.out
                      obtain ⟨v0, v1⟩ := hvb
                      have v2 : v < (n : Int) := by omega
                      obtain ⟨⟨u, hu⟩, hf, hg⟩ := hS2.cell (by simp) (j := v.toNat) (by omega)
                      have Hset := Lib.hid (show (mkU n (seen (ats.take k) ++ xs.take j)).set v.toNat true = mkU n (seen (ats.take k) ++ xs.take (j + 1)) by
                        rw [mkU_set v0, List.take_succ_eq_append_getElem hlt2, Hv.out, List.append_assoc])
                      clear hS2
                      go_wp2_with (go_at_call 121; refine (within_any _ _ _ _).mono ?_; rintro e w' ⟨rfl, rfl⟩; rw [N6.out])
                      obtain ⟨h3, h4⟩ := HS2.out.set1 (by simp) (k := v.toNat) (by omega) (u := .bool true) (d := true) (fun _ => ⟨rfl, rfl⟩)
                      rw [Hset.out] at h3
                      exact ⟨⟨j + 1, by go_num, by omega, h3, h4.isExt hy2 (by simpa using by omega), by simpa using He2.out⟩, by simp [intOf]; omega⟩
                  · have e := Hj2.out
                    rw [allA_end hlt2] at e
                    have e2 := He.out
                    rw [← e] at e2
                    have He2 := Lib.hid e2
                    rw [show xs.take j = xs from List.take_of_length_le (by omega), ← Hst.out] at hS2
                    clear e e2
                    go_wp2
                    exact ⟨⟨k + 1, by go_num, by omega, hS2, hy2, by simpa using He2.out⟩, by simp [intOf]; omega⟩
          · have e := Hj.out
            rw [allA_end hlt] at e
            have HE2 := Lib.hid (HT.out e.symm)
            rw [List.take_of_length_le (by omega)] at hS
            have hV := hS.toView sB_v
            clear e
            go_wp2
            clear hlt Hj
            go_loopw [69] (fun i ws => ∃ k : Nat, i = .int .i64 k ∧ k ≤ n ∧ ((mkU n (seen ats)).drop k).all id = (mkU n (seen ats)).all id ∧ ∃ y, ws = ext wr y) (fun i _ => n - (intOf i).toNat)
            case atStart => exact ⟨0, rfl, by omega, by simp, refl_ext _⟩
            case round =>
              obtain ⟨k, rfl, hk, hj, hy3⟩ := hrel
              have Hj := Lib.hid hj
              clear hj
              by_cases hlt : k < n
              · have hlt2 : k < (mkU n (seen ats)).length := by simpa using hlt
                obtain ⟨b3, o3, hA3, hb3, hc3⟩ := (hV.toExt hy3).atB hlt2
                injection hA3 with hA3
                injection hA3 with e1 e2
                subst e1 e2
                have e := Hj.out
                rw [allA_step hlt2] at e
                obtain ⟨t, ht⟩ : ∃ t, (mkU n (seen ats))[k] = t := ⟨_, rfl⟩
                rw [ht] at e hc3
                rw [Nat.zero_add] at hc3
                have He := Lib.hid e
                clear e ht
                cases t with
                | true =>
                  go_wp2
                  exact ⟨⟨k + 1, by go_num, by omega, by simpa using He.out, hy3⟩, by simp [intOf]; omega⟩
                | false =>
                  go_wp2
                  go_ret
                  exact ⟨by rw [HE2.out, ← He.out]; rfl, trans_ext hy hy3⟩
              · have e := Hj.out
                rw [allA_end (by simpa using hlt)] at e
                have He := Lib.hid e
                clear e
                go_wp2
                go_ret
                exact ⟨by rw [HE2.out, ← He.out]; rfl, trans_ext hy hy3⟩
theorem IsValidQuery_any {A B : Option Addr} {c e1 : Nat} {d : Qd} {w : World} (hb : BQ d) (h : vQ w [.int .i64 d.1, .slice A d.2.1.length c, .slice B d.2.2.length e1] d) :
    Calls Try.prog 156 #[.agg #[.int .i64 d.1, .slice A d.2.1.length c, .slice B d.2.2.length e1]] w fun e w' => e = .returned (.bool (vqB d)) ∧ ∃ y, w' = ext w y := IsValidQuery_w hb.w h
theorem quietEi' {P : Program} {f : FuncId} {args : Array Value} {w y : World} {m n : Int}
    (h : Calls P f args (ext w y) fun e w' => e = .returned (.int .i64 m) ∧ ∃ z, w' = ext (ext w y) z) (hc : m = n) : Calls P f args (ext w y) fun e w' => e = .returned (.int .i64 n) ∧ ∃ z, w' = ext w z := by
  subst hc; exact quietE h
theorem l7Find_n {A : Option Addr} {c m : Nat} {xs : List Int} {n : Int} {w : World} (hm : xs.length = m) (hx : m ≤ 1000000000) (h1 : RI w A xs) :
    Calls Try.prog 125 #[.slice A m c, .int .i64 n] w fun e w' => e = .returned (.int .i64 (iof 0 n xs)) ∧ ∃ y, w' = ext w y := by
  subst hm
  exact l7Find_any hx h1
set_option maxRecDepth 100000 in
set_option maxHeartbeats 8000000 in
theorem specIsValidQuery_w {A B : Option Addr} {c e1 : Nat} {d : Qd} {w : World} (hb : WQ d) (h : vQ w [.int .i64 d.1, .slice A d.2.1.length c, .slice B d.2.2.length e1] d) :
    Calls Try.prog 157 #[.agg #[.int .i64 d.1, .slice A d.2.1.length c, .slice B d.2.2.length e1]] w fun e w' => e = .returned (.bool (vqB d)) ∧ ∃ y, w' = ext w y := by
  obtain ⟨r1, r2, hcap⟩ := vQ_get h
  obtain ⟨hz, b1, b2⟩ := hb
  obtain ⟨z, ats, out⟩ := d
  dsimp only at r1 r2 hcap hz b1 b2 ⊢
  have r1 := (vAts_get r1).2
  have m2 : out.length ≤ 1000000000 := by omega
  have b4 := b1.1
  have Hx := Lib.hid b1.2
  clear h b1
  obtain ⟨t1, ht1⟩ : ∃ t, inB z 1 5 = t := ⟨_, rfl⟩
  obtain ⟨t2, ht2⟩ : ∃ t, inB ats.length 1 4 = t := ⟨_, rfl⟩
  have N1 := Lib.hid ht1
  have N2 := Lib.hid ht2
  have HE := Lib.hid (show vqB (z, ats, out) = (t1 && t2 && setB z [] out && ats.all (atomB z) && coverB z ats) by unfold vqB; rw [ht1, ht2])
  clear ht1 ht2
  cases t1 with
  | false =>
    go_enter Try.func157, Try.ntmps157
    go_wp2_with (go_at_call 123; refine (l1In_any _ _ _ _).mono ?_; rintro e w' ⟨rfl, rfl⟩; (first | rw [N1.out] | rw [N2.out]))
    go_ret
    exact ⟨by rw [HE.out]; rfl, (by refine Chg.isExt (F := []) ?_ (refl_ext _) (by simp); repeat (with_reducible (first | exact Chg.refl _ _ | exact Nat.le_refl _ | exact Chg.ofExt (by assumption) | refine Chg.trans0 ?_ (by assumption) | refine Chg.extS ?_ _ | refine Chg.alloc ?_ _ | refine Chg.drew ?_ | refine Chg.setCellE ?_ ?_ _ | refine le_addk ?_ _ | refine le_ext ?_ | refine le_alloc ?_ _ | refine le_setC ?_ _ _ | refine le_drew ?_ | assumption | (refine Nat.le_of_lt ?_; omega) | omega)))⟩
  | true =>
    have hn := inB_t N1.out
    obtain ⟨n, rfl⟩ : ∃ n : Nat, z = n := ⟨z.toNat, by omega⟩
    have hn1 : n ≤ 5 := by omega
    have hn2 : 1 ≤ n := by omega
    clear hn hz
    cases t2 with
    | false =>
      go_enter Try.func157, Try.ntmps157
      go_wp2_with (go_at_call 123; refine (l1In_any _ _ _ _).mono ?_; rintro e w' ⟨rfl, rfl⟩; (first | rw [N1.out] | rw [N2.out]))
      go_ret
      exact ⟨by rw [HE.out]; rfl, (by refine Chg.isExt (F := []) ?_ (refl_ext _) (by simp); repeat (with_reducible (first | exact Chg.refl _ _ | exact Nat.le_refl _ | exact Chg.ofExt (by assumption) | refine Chg.trans0 ?_ (by assumption) | refine Chg.extS ?_ _ | refine Chg.alloc ?_ _ | refine Chg.drew ?_ | refine Chg.setCellE ?_ ?_ _ | refine le_addk ?_ _ | refine le_ext ?_ | refine le_alloc ?_ _ | refine le_setC ?_ _ _ | refine le_drew ?_ | assumption | (refine Nat.le_of_lt ?_; omega) | omega)))⟩
    | true =>
      by_cases hbig : n < out.length
      · have HF := Lib.hid (show vqB ((n : Int), ats, out) = false by
          rw [HE.out]
          cases hs : setB n [] out with
          | false => rfl
          | true => have := setB_len hs (by omega); omega)
        go_enter Try.func157, Try.ntmps157
        go_wp2_with (go_at_call 123; refine (l1In_any _ _ _ _).mono ?_; rintro e w' ⟨rfl, rfl⟩; (first | rw [N1.out] | rw [N2.out]))
        go_ret
        exact ⟨by rw [HF.out]; rfl, (by refine Chg.isExt (F := []) ?_ (refl_ext _) (by simp); repeat (with_reducible (first | exact Chg.refl _ _ | exact Nat.le_refl _ | exact Chg.ofExt (by assumption) | refine Chg.trans0 ?_ (by assumption) | refine Chg.extS ?_ _ | refine Chg.alloc ?_ _ | refine Chg.drew ?_ | refine Chg.setCellE ?_ ?_ _ | refine le_addk ?_ _ | refine le_ext ?_ | refine le_alloc ?_ _ | refine le_setC ?_ _ _ | refine le_drew ?_ | assumption | (refine Nat.le_of_lt ?_; omega) | omega)))⟩
      · have HF1 := Lib.hid (show ats.all (atomB n) = false → vqB ((n : Int), ats, out) = false by rw [HE.out]; intro h; rw [h, Bool.and_false]; rfl)
        have HF2 := Lib.hid (show (mkU n (seen ats)).all id = false → vqB ((n : Int), ats, out) = false by rw [HE.out]; intro h; rw [show coverB n ats = (mkU n (seen ats)).all id from rfl, h, Bool.and_false])
        have HT := Lib.hid (show ats.all (atomB n) = true → (mkU n (seen ats)).all id = true → vqB ((n : Int), ats, out) = setB n [] out by rw [HE.out]; intro h h2; rw [h, show coverB n ats = (mkU n (seen ats)).all id from rfl, h2]; simp)
        have hw1 : IntKind.i64.wrap ((n : Int) - 1) = (n : Int) - 1 := by rw [IntKind.wrap_i64]; omega
        go_enter Try.func157, Try.ntmps157
        go_upto_region 1 with fail
        refine wp_name ?_
        intro W hW
        have xW : ∃ y, W = ext w y := by rw [hW.out]; exact (by refine Chg.isExt (F := []) ?_ (refl_ext _) (by simp); repeat (with_reducible (first | exact Chg.refl _ _ | exact Nat.le_refl _ | exact Chg.ofExt (by assumption) | refine Chg.trans0 ?_ (by assumption) | refine Chg.extS ?_ _ | refine Chg.alloc ?_ _ | refine Chg.drew ?_ | refine Chg.setCellE ?_ ?_ _ | refine le_addk ?_ _ | refine le_ext ?_ | refine le_alloc ?_ _ | refine le_setC ?_ _ _ | refine le_drew ?_ | assumption | (refine Nat.le_of_lt ?_; omega) | omega)))
        have BW0 : BoxAt W (w.heap.size) #[.int .i64 (n : Int), .slice A ats.length c, .slice B out.length e1] := by rw [hW.out]; refine ⟨?_, fun j => ?_, fun j => ?_⟩ <;> go_simp
        obtain ⟨lW0, bW0, fW0⟩ := BW0
        have cW0_0 : W.cell? ⟨w.heap.size, 0, none⟩ = some (.int .i64 (n : Int)) := bW0 0
        have cW0_1 : W.cell? ⟨w.heap.size, 1, none⟩ = some (.slice A ats.length c) := bW0 1
        have cW0_2 : W.cell? ⟨w.heap.size, 2, none⟩ = some (.slice B out.length e1) := bW0 2
        clear hW
        go_wp2_with (go_at_call 123; refine (l1In_any _ _ _ _).mono ?_; rintro e w' ⟨rfl, rfl⟩; (first | rw [N1.out] | rw [N2.out]))
        have r1 := r1.toExt xW
        have r2 := r2.toExt xW
        go_loopw [3] (fun i wr => ∃ k : Nat, i = .int .i64 k ∧ k ≤ ats.length ∧ (∃ y, wr = ext W y) ∧ (ats.drop k).all (atomB n) = ats.all (atomB n)) (fun i _ => ats.length - (intOf i).toNat)
        case atStart => exact ⟨0, rfl, by omega, refl_ext _, by simp⟩
        case round =>
          obtain ⟨k, rfl, hk, hy, hj⟩ := hrel
          have Hj := Lib.hid hj
          clear hj
          obtain ⟨l1, a1, a1', a1'', f1⟩ := box3 (BoxAt.toExt (cs := #[_, _, _]) ⟨lW0, bW0, fW0⟩ hy)
          by_cases hlt : k < ats.length
          · obtain ⟨b, o, A', c', rfl, hb0, hc0, hd0, hv0⟩ := r1.atA hlt
            have hb : b < wr.heap.size := Nat.lt_of_lt_of_le hb0 (size_of_ext hy)
            have hc : wr.cell? ⟨b, o + k * 2, none⟩ = some (.string ats[k].1) := by obtain ⟨y, e⟩ := hy; rw [e, cell_ext hb0]; exact hc0
            have hd : wr.cell? ⟨b, o + k * 2 + 1, none⟩ = some (.slice A' ats[k].2.length c') := by obtain ⟨y, e⟩ := hy; rw [e, cell_ext hb0]; exact hd0
            have hle := Hx.out ats[k] (List.getElem_mem hlt)
            obtain ⟨x1, x2⟩ := hle
            have x3 : ats[k].1.size ≤ 1000000000 := by omega
            have e := Hj.out
            rw [allA_step hlt] at e
            obtain ⟨s, hs⟩ : ∃ s, ats[k].1 = s := ⟨_, rfl⟩
            obtain ⟨xs, hxs⟩ : ∃ xs, ats[k].2 = xs := ⟨_, rfl⟩
            have ea : atomB n ats[k] = (nameB s && inB xs.length 1 5 && xs.all fun v => inB v 0 ((n : Int) - 1)) := by unfold atomB; rw [hs, hxs]
            rw [ea] at e
            rw [hs] at hc x3
            rw [hxs] at hd hd0 hv0 x2
            obtain ⟨t4, ht4⟩ : ∃ t, nameB s = t := ⟨_, rfl⟩
            obtain ⟨t5, ht5⟩ : ∃ t, inB xs.length 1 5 = t := ⟨_, rfl⟩
            rw [ht4, ht5] at e
            have N4 := Lib.hid ht4
            have N5 := Lib.hid ht5
            have He := Lib.hid e
            have Hd0 := Lib.hid hd0
            clear e ea hs hxs ht4 ht5 x1 hc0 hd0
            cases t4 with
            | false =>
              go_wp2_with (go_at_call 143; refine (specIsValidName_any x3).mono ?_; rintro e w' ⟨rfl, rfl⟩; rw [N4.out])
              go_ret
              exact ⟨by rw [HF1.out He.out.symm]; rfl, trans_ext xW hy⟩
            | true =>
              cases t5 with
              | false =>
                go_wp2_with (first
                  | (go_at_call 143; refine (specIsValidName_any x3).mono ?_; rintro e w' ⟨rfl, rfl⟩; rw [N4.out])
                  | (go_at_call 123; refine (l1In_any _ _ _ _).mono ?_; rintro e w' ⟨rfl, rfl⟩; rw [N5.out]))
                go_ret
                exact ⟨by rw [HF1.out He.out.symm]; rfl, trans_ext xW hy⟩
              | true =>
                go_wp2_with (first
                  | (go_at_call 143; refine (specIsValidName_any x3).mono ?_; rintro e w' ⟨rfl, rfl⟩; rw [N4.out])
                  | (go_at_call 123; refine (l1In_any _ _ _ _).mono ?_; rintro e w' ⟨rfl, rfl⟩; rw [N5.out]))
                clear l1 a1 a1' a1'' f1 hb hc hd
                go_loopw [4] (fun i vs => ∃ j : Nat, i = .int .i64 j ∧ j ≤ xs.length ∧ (∃ y, vs = ext W y) ∧ (xs.drop j).all (fun v => inB v 0 ((n : Int) - 1)) = xs.all fun v => inB v 0 ((n : Int) - 1)) (fun i _ => xs.length - (intOf i).toNat)
                case atStart => exact ⟨0, rfl, by omega, hy, by simp⟩
                case round =>
                  obtain ⟨j, rfl, hj1, hy2, hj⟩ := hrel
                  have Hj2 := Lib.hid hj
                  clear hj
                  obtain ⟨l2, a2, a2', a2'', f2⟩ := box3 (BoxAt.toExt (cs := #[_, _, _]) ⟨lW0, bW0, fW0⟩ hy2)
                  have hb : b < wr.heap.size := Nat.lt_of_lt_of_le hb0 (size_of_ext hy2)
                  have hd : wr.cell? ⟨b, o + k * 2 + 1, none⟩ = some (.slice A' xs.length c') := by obtain ⟨y, e⟩ := hy2; rw [e, cell_ext hb0]; exact Hd0.out
                  by_cases hlt2 : j < xs.length
                  · obtain ⟨b3, o3, rfl, hb3, hc3⟩ := (hv0.toExt hy2).atI hlt2
                    have e := Hj2.out
                    rw [allA_step hlt2] at e
                    obtain ⟨v, hvv⟩ : ∃ v, xs[j] = v := ⟨_, rfl⟩
                    rw [hvv] at e hc3
                    obtain ⟨t6, ht6⟩ : ∃ t, inB v 0 ((n : Int) - 1) = t := ⟨_, rfl⟩
                    rw [ht6] at e
                    have N6 := Lib.hid ht6
                    have He2 := Lib.hid e
                    clear e hvv ht6
                    cases t6 with
                    | false =>
                      have HB := Lib.hid (show ats.all (atomB n) = false by rw [← He.out, ← He2.out]; rfl)
                      go_wp2
                      refine wp_region_ext (by kernel_rfl) (by kernel_rfl) ?_
                      repeat (go_big_quiet_step ((go_at_call 123; (try rw [hw1]); exact quietSb (l1In_any _ _ _ _) N6.out)))
                      refine wpQuiet_nil ?_
                      rintro _ ⟨zz, rfl⟩
                      go_wp2
                      go_ret
                      exact ⟨by rw [HF1.out HB.out]; rfl, (by refine Chg.isExt (F := []) ?_ (refl_ext _) (by simp); repeat (with_reducible (first | exact Chg.refl _ _ | exact Nat.le_refl _ | exact Chg.ofExt (by assumption) | refine Chg.trans0 ?_ (by assumption) | refine Chg.extS ?_ _ | refine Chg.alloc ?_ _ | refine Chg.drew ?_ | refine Chg.setCellE ?_ ?_ _ | refine le_addk ?_ _ | refine le_ext ?_ | refine le_alloc ?_ _ | refine le_setC ?_ _ _ | refine le_drew ?_ | assumption | (refine Nat.le_of_lt ?_; omega) | omega)))⟩
                    | true =>
                      go_wp2
                      refine wp_region_ext (by kernel_rfl) (by kernel_rfl) ?_
                      repeat (go_big_quiet_step ((go_at_call 123; (try rw [hw1]); exact quietSb (l1In_any _ _ _ _) N6.out)))
                      refine wpQuiet_nil ?_
                      rintro _ ⟨zz, rfl⟩
                      go_wp2
                      exact ⟨⟨j + 1, by go_num, by omega, (by refine Chg.isExt (F := []) ?_ (refl_ext _) (by simp); repeat (with_reducible (first | exact Chg.refl _ _ | exact Nat.le_refl _ | exact Chg.ofExt (by assumption) | refine Chg.trans0 ?_ (by assumption) | refine Chg.extS ?_ _ | refine Chg.alloc ?_ _ | refine Chg.drew ?_ | refine Chg.setCellE ?_ ?_ _ | refine le_addk ?_ _ | refine le_ext ?_ | refine le_alloc ?_ _ | refine le_setC ?_ _ _ | refine le_drew ?_ | assumption | (refine Nat.le_of_lt ?_; omega) | omega))), by simpa using He2.out⟩, by simp [intOf]; omega⟩
                  · have e := Hj2.out
                    rw [allA_end hlt2] at e
                    have e2 := He.out
                    rw [← e] at e2
                    have He2 := Lib.hid e2
                    clear e e2
                    go_wp2
                    exact ⟨⟨k + 1, by go_num, by omega, hy2, by simpa using He2.out⟩, by simp [intOf]; omega⟩
          · have e := Hj.out
            rw [allA_end hlt] at e
            have HA := Lib.hid e.symm
            clear e
            go_wp2
            clear hlt Hj l1 a1 a1' a1'' f1
            go_loopw [5] (fun i wr => ∃ v : Nat, i = .int .i64 v ∧ v ≤ n ∧ (∃ y, wr = ext W y) ∧ ((mkU n (seen ats)).drop v).all id = (mkU n (seen ats)).all id) (fun i _ => n - (intOf i).toNat)
            case atStart => exact ⟨0, rfl, by omega, hy, by simp⟩
            case round =>
              obtain ⟨v, rfl, hv, hy, hj⟩ := hrel
              have Hj := Lib.hid hj
              clear hj
              obtain ⟨l1, a1, a1', a1'', f1⟩ := box3 (BoxAt.toExt (cs := #[_, _, _]) ⟨lW0, bW0, fW0⟩ hy)
              by_cases hlt : v < n
              · have hlt2 : v < (mkU n (seen ats)).length := by simpa using hlt
                have e := Hj.out
                rw [allA_step hlt2] at e
                have em : (mkU n (seen ats))[v] = decide ((v : Int) ∈ seen ats) := by simp [mkU]
                rw [em] at e
                have He := Lib.hid e
                clear e em
                go_wp2
                clear l1 a1 a1' a1'' f1
                go_loopw [6, 7] (fun s i vs => ∃ k : Nat, i = .int .i64 k ∧ s = .bool (decide ((v : Int) ∈ seen (ats.take k))) ∧ k ≤ ats.length ∧ (∃ y, vs = ext W y)) (fun _ i _ => ats.length - (intOf i).toNat)
                case atStart => exact ⟨0, rfl, by simp [seen], by omega, hy⟩
                case round =>
                  obtain ⟨k, rfl, rfl, hk, hy2⟩ := hrel
                  obtain ⟨l2, a2, a2', a2'', f2⟩ := box3 (BoxAt.toExt (cs := #[_, _, _]) ⟨lW0, bW0, fW0⟩ hy2)
                  by_cases hlt3 : k < ats.length
                  · obtain ⟨b, o, A', c', rfl, hb0, hc0, hd0, hv0⟩ := r1.atA hlt3
                    have hb : b < wr.heap.size := Nat.lt_of_lt_of_le hb0 (size_of_ext hy2)
                    have hc : wr.cell? ⟨b, o + k * 2, none⟩ = some (.string ats[k].1) := by obtain ⟨y, e⟩ := hy2; rw [e, cell_ext hb0]; exact hc0
                    have hd : wr.cell? ⟨b, o + k * 2 + 1, none⟩ = some (.slice A' ats[k].2.length c') := by obtain ⟨y, e⟩ := hy2; rw [e, cell_ext hb0]; exact hd0
                    have x2 : ats[k].2.length ≤ 1000000000 := by have := (Hx.out ats[k] (List.getElem_mem hlt3)).2; omega
                    have hst : decide ((v : Int) ∈ seen (ats.take (k + 1))) = (decide ((v : Int) ∈ seen (ats.take k)) || decide ((v : Int) ∈ ats[k].2)) := by
                      rw [seen_take hlt3, Bool.eq_iff_iff]; simp
                    obtain ⟨t7, ht7⟩ : ∃ t, decide ((v : Int) ∈ seen (ats.take k)) = t := ⟨_, rfl⟩
                    obtain ⟨t8, ht8⟩ : ∃ t, decide ((v : Int) ∈ ats[k].2) = t := ⟨_, rfl⟩
                    rw [ht7, ht8] at hst
                    rw [ht7]
                    have Hst := Lib.hid hst
                    have H8 := Lib.hid ht8
                    clear hst ht7 ht8 hc0 hd0
                    cases t7 with
                    | true =>
                      go_wp2
                      exact ⟨⟨k + 1, by go_num, by rw [Hst.out]; rfl, by omega, hy2⟩, by simp [intOf]; omega⟩
                    | false =>
                      go_wp2_with (go_at_call 151; refine (specContains_any x2 (hv0.toExt hy2)).mono ?_; rintro e w1 ⟨rfl, hx1⟩; rw [H8.out])
                      exact ⟨⟨k + 1, by go_num, by rw [Hst.out, Bool.false_or], by omega, (by refine Chg.isExt (F := []) ?_ (refl_ext _) (by simp); repeat (with_reducible (first | exact Chg.refl _ _ | exact Nat.le_refl _ | exact Chg.ofExt (by assumption) | refine Chg.trans0 ?_ (by assumption) | refine Chg.extS ?_ _ | refine Chg.alloc ?_ _ | refine Chg.drew ?_ | refine Chg.setCellE ?_ ?_ _ | refine le_addk ?_ _ | refine le_ext ?_ | refine le_alloc ?_ _ | refine le_setC ?_ _ _ | refine le_drew ?_ | assumption | (refine Nat.le_of_lt ?_; omega) | omega)))⟩, by simp [intOf]; omega⟩
                  · have ek : ats.take k = ats := List.take_of_length_le (by omega)
                    rw [ek]
                    have He2 := He.out
                    obtain ⟨t9, ht9⟩ : ∃ t, decide ((v : Int) ∈ seen ats) = t := ⟨_, rfl⟩
                    rw [ht9] at He2 ⊢
                    have HR := Lib.hid He2
                    clear ek He2 ht9
                    cases t9 with
                    | true =>
                      go_wp2
                      exact ⟨⟨v + 1, by go_num, by omega, hy2, by simpa using HR.out⟩, by simp [intOf]; omega⟩
                    | false =>
                      go_wp2
                      go_ret
                      exact ⟨by rw [HF2.out HR.out.symm]; rfl, trans_ext xW hy2⟩
              · have e := Hj.out
                rw [allA_end (by simpa using hlt)] at e
                have HU := Lib.hid (HT.out HA.out e.symm)
                clear e
                go_wp2
                clear hlt Hj l1 a1 a1' a1'' f1
                go_loopw [8] (fun i wr => ∃ k : Nat, i = .int .i64 k ∧ k ≤ out.length ∧ (∃ y, wr = ext W y) ∧ setB n (out.take k) (out.drop k) = setB n [] out) (fun i _ => out.length - (intOf i).toNat)
                case atStart => exact ⟨0, rfl, by omega, hy, by simp⟩
                case round =>
                  obtain ⟨k, rfl, hk, hy3, hj⟩ := hrel
                  have Hj := Lib.hid hj
                  clear hj
                  obtain ⟨l3, a3, a3', a3'', f3⟩ := box3 (BoxAt.toExt (cs := #[_, _, _]) ⟨lW0, bW0, fW0⟩ hy3)
                  by_cases hlt : k < out.length
                  · have r2' := r2.toExt hy3
                    obtain ⟨b, o, rfl, hb, hc⟩ := r2'.atI hlt
                    have e := Hj.out
                    rw [setB_step hlt] at e
                    obtain ⟨x, hx⟩ : ∃ x, out[k] = x := ⟨_, rfl⟩
                    rw [hx] at e hc
                    obtain ⟨t1, ht1⟩ : ∃ t, inB x 0 ((n : Int) - 1) = t := ⟨_, rfl⟩
                    obtain ⟨m, hm⟩ : ∃ m, iof 0 x (out.take k) = m := ⟨_, rfl⟩
                    have hmm := iof_nonneg (n := x) 0 (out.take k)
                    rw [hm] at hmm
                    have hp := r2'.pre k
                    have HP := Lib.hid (show (out.take k).length = k by simp; omega)
                    have T1 := Lib.hid ht1
                    have T2 := Lib.hid hm
                    have g1 : (0 : Int) ≤ (k : Int) := by omega
                    have g2 : (k : Int) ≤ (e1 : Int) := by omega
                    rw [ht1] at e
                    cases t1 with
                    | false =>
                      have He := Lib.hid e
                      clear e ht1 hm hx hmm
                      go_wp2
                      refine wp_region_ext (by kernel_rfl) (by kernel_rfl) ?_
                      repeat (go_big_quiet_step ((go_at_call 123; (try rw [hw1]); exact quietSb (l1In_any _ _ _ _) T1.out)))
                      refine wpQuiet_nil ?_
                      rintro _ ⟨zz, rfl⟩
                      go_wp2
                      go_ret
                      exact ⟨by rw [HU.out, ← He.out]; rfl, (by refine Chg.isExt (F := []) ?_ (refl_ext _) (by simp); repeat (with_reducible (first | exact Chg.refl _ _ | exact Nat.le_refl _ | exact Chg.ofExt (by assumption) | refine Chg.trans0 ?_ (by assumption) | refine Chg.extS ?_ _ | refine Chg.alloc ?_ _ | refine Chg.drew ?_ | refine Chg.setCellE ?_ ?_ _ | refine le_addk ?_ _ | refine le_ext ?_ | refine le_alloc ?_ _ | refine le_setC ?_ _ _ | refine le_drew ?_ | assumption | (refine Nat.le_of_lt ?_; omega) | omega)))⟩
                    | true =>
                      by_cases hm0 : 0 ≤ m
                      · rw [decide_eq_true (hmm.1 hm0)] at e
                        have He := Lib.hid e
                        clear e ht1 hm hx hmm
                        go_wp2
                        refine wp_region_ext (by kernel_rfl) (by kernel_rfl) ?_
                        repeat (go_big_quiet_step (first | (go_at_call 123; (try rw [hw1]); exact quietSb (l1In_any _ _ _ _) T1.out) | (go_at_call 125; exact quietEi' (l7Find_n HP.out (by omega) hp.ext) T2.out)))
                        refine wpQuiet_nil ?_
                        rintro _ ⟨zz, rfl⟩
                        go_wp2
                        go_ret
                        exact ⟨by rw [HU.out, ← He.out]; rfl, (by refine Chg.isExt (F := []) ?_ (refl_ext _) (by simp); repeat (with_reducible (first | exact Chg.refl _ _ | exact Nat.le_refl _ | exact Chg.ofExt (by assumption) | refine Chg.trans0 ?_ (by assumption) | refine Chg.extS ?_ _ | refine Chg.alloc ?_ _ | refine Chg.drew ?_ | refine Chg.setCellE ?_ ?_ _ | refine le_addk ?_ _ | refine le_ext ?_ | refine le_alloc ?_ _ | refine le_setC ?_ _ _ | refine le_drew ?_ | assumption | (refine Nat.le_of_lt ?_; omega) | omega)))⟩
                      · rw [decide_eq_false (fun h => hm0 (hmm.2 h))] at e
                        have He := Lib.hid e
                        have hm1 : m < 0 := by omega
                        clear e ht1 hm hx hmm
                        go_wp2
                        refine wp_region_ext (by kernel_rfl) (by kernel_rfl) ?_
                        repeat (go_big_quiet_step (first | (go_at_call 123; (try rw [hw1]); exact quietSb (l1In_any _ _ _ _) T1.out) | (go_at_call 125; exact quietEi' (l7Find_n HP.out (by omega) hp.ext) T2.out)))
                        refine wpQuiet_nil ?_
                        rintro _ ⟨zz, rfl⟩
                        go_wp2
                        exact ⟨⟨k + 1, by go_num, by omega, (by refine Chg.isExt (F := []) ?_ (refl_ext _) (by simp); repeat (with_reducible (first | exact Chg.refl _ _ | exact Nat.le_refl _ | exact Chg.ofExt (by assumption) | refine Chg.trans0 ?_ (by assumption) | refine Chg.extS ?_ _ | refine Chg.alloc ?_ _ | refine Chg.drew ?_ | refine Chg.setCellE ?_ ?_ _ | refine le_addk ?_ _ | refine le_ext ?_ | refine le_alloc ?_ _ | refine le_setC ?_ _ _ | refine le_drew ?_ | assumption | (refine Nat.le_of_lt ?_; omega) | omega))), by simpa using He.out⟩, by simp [intOf]; omega⟩
                  · have e := Hj.out
                    rw [setB_end hlt] at e
                    have He := Lib.hid e
                    clear e
                    go_wp2
                    go_ret
                    exact ⟨by rw [HU.out, ← He.out]; rfl, trans_ext xW hy3⟩
theorem specIsValidQuery_any {A B : Option Addr} {c e1 : Nat} {d : Qd} {w : World} (hb : BQ d) (h : vQ w [.int .i64 d.1, .slice A d.2.1.length c, .slice B d.2.2.length e1] d) :
    Calls Try.prog 157 #[.agg #[.int .i64 d.1, .slice A d.2.1.length c, .slice B d.2.2.length e1]] w fun e w' => e = .returned (.bool (vqB d)) ∧ ∃ y, w' = ext w y := specIsValidQuery_w hb.w h
end Go.Proofs.Ytfigcfajkilhiaa

/- Queries as text; the program's way and the reference's. -/
namespace Go.Proofs.Ytfigcfajkilhiaa
open Go.RowKit

theorem ba_assoc (a b c : ByteArray) : a ++ b ++ c = a ++ (b ++ c) := bl_inj (by simp [bl])
theorem ba_nil (a : ByteArray) : a ++ ⟨#[]⟩ = a := bl_inj (by simp [bl])
theorem nil_ba (a : ByteArray) : ⟨#[]⟩ ++ a = a := bl_inj (by simp [bl])
def nmG : ByteArray → List Int → ByteArray
  | acc, [] => acc
  | acc, v :: vs => nmG (acc ++ vname v) vs
def names (l : List Int) : ByteArray := nmG ⟨#[]⟩ l
theorem nmG_eq : ∀ (l : List Int) (acc : ByteArray), nmG acc l = acc ++ names l
  | [], acc => by rw [names, nmG, nmG, ba_nil]
  | v :: vs, acc => by
    have e : names (v :: vs) = vname v ++ names vs := by
      show nmG (⟨#[]⟩ ++ vname v) vs = _
      rw [nil_ba, nmG_eq vs]
    rw [nmG, nmG_eq vs, e, ba_assoc]
theorem nmG_step {acc : ByteArray} {l : List Int} {k : Nat} (h : k < l.length) : nmG acc (l.drop k) = nmG (acc ++ vname l[k]) (l.drop (k + 1)) := by
  rw [List.drop_eq_getElem_cons h, nmG]
theorem nmG_end {acc : ByteArray} {l : List Int} {k : Nat} (h : ¬ k < l.length) : nmG acc (l.drop k) = acc := by
  rw [List.drop_eq_nil_of_le (by omega), nmG]
theorem vname_size (v : Int) : (vname v).size ≤ 1 := by
  unfold vname
  split
  · rw [ByteArray.size_extract]; omega
  · decide
theorem names_size : ∀ (l : List Int), (names l).size ≤ l.length
  | [] => by decide
  | v :: vs => by
    have h1 := names_size vs
    have h2 := vname_size v
    rw [show names (v :: vs) = nmG (⟨#[]⟩ ++ vname v) vs from rfl, nil_ba, nmG_eq, ba_size, List.length_cons]
    omega
def par (l : List Int) : ByteArray := ⟨#[40]⟩ ++ names l ++ ⟨#[41]⟩
def atomT (x : At) : ByteArray := x.1 ++ ⟨#[40]⟩ ++ names x.2 ++ ⟨#[41]⟩
def fmtQ (d : Qd) : ByteArray := if vqB d = true then ⟨#[40]⟩ ++ names d.2.2 ++ ⟨#[41, 61]⟩ ++ joinF ⟨#[44]⟩ 0 ⟨#[]⟩ (d.2.1.map atomT) else ⟨#[]⟩
theorem atomT_par (x : At) : x.1 ++ par x.2 = atomT x := by unfold par atomT; simp only [ba_assoc]
theorem joinF_acc (sep : ByteArray) : ∀ (ps : List ByteArray) (k : Nat) (acc : ByteArray), joinF sep k acc ps = acc ++ joinF sep k ⟨#[]⟩ ps
  | [], k, acc => by rw [joinF, joinF, ba_nil]
  | p :: ps, k, acc => by
    rw [joinF, joinF, joinF_acc sep ps, joinF_acc sep ps (k + 1) ((if 0 < k then ⟨#[]⟩ ++ sep else ⟨#[]⟩) ++ p)]
    split
    · simp only [nil_ba, ba_assoc]
    · simp only [nil_ba, ba_assoc]
theorem fmtQ_par {d : Qd} (h : vqB d = true) : joinF ⟨#[44]⟩ 0 (par d.2.2 ++ ⟨#[61]⟩) (d.2.1.map atomT) = fmtQ d := by
  unfold fmtQ
  rw [if_pos h, joinF_acc]
  congr 1
  unfold par
  rw [ba_assoc, show (⟨#[41]⟩ ++ ⟨#[61]⟩ : ByteArray) = ⟨#[41, 61]⟩ from rfl]
theorem vqB_facts {d : Qd} (h : vqB d = true) : d.2.1.length ≤ 4 ∧ d.2.2.length ≤ 5 ∧ ∀ x ∈ d.2.1, x.1.size ≤ 4 ∧ x.2.length ≤ 5 := by
  unfold vqB at h
  simp only [Bool.and_eq_true, List.all_eq_true] at h
  obtain ⟨⟨⟨⟨h1, h2⟩, h3⟩, h4⟩, _⟩ := h
  have h1 := inB_t h1
  have h2 := inB_t h2
  have h3 := setB_len h3 (by omega)
  refine ⟨by omega, by omega, fun x hx => ?_⟩
  have h5 := h4 x hx
  unfold atomB nameB at h5
  simp only [Bool.and_eq_true] at h5
  obtain ⟨⟨⟨h6, _⟩, h7⟩, _⟩ := h5
  have h6 := inB_t h6
  have h7 := inB_t h7
  omega
theorem atomT_size {x : At} (h1 : x.1.size ≤ 4) (h2 : x.2.length ≤ 5) : (atomT x).size ≤ 20 := by
  have := names_size x.2
  unfold atomT
  rw [ba_size, ba_size, ba_size, show (ByteArray.mk #[40]).size = 1 from rfl, show (ByteArray.mk #[41]).size = 1 from rfl]
  omega
theorem joinF_size (m : Nat) : ∀ (ps : List ByteArray) (k : Nat) (acc : ByteArray), (∀ p ∈ ps, p.size ≤ m) → (joinF ⟨#[44]⟩ k acc ps).size ≤ acc.size + ps.length * (m + 1)
  | [], k, acc, _ => by simp [joinF]
  | p :: ps, k, acc, h => by
    have h1 := h p (by simp)
    have ih := joinF_size m ps (k + 1) ((if 0 < k then acc ++ ⟨#[44]⟩ else acc) ++ p) fun q hq => h q (by simp [hq])
    have h2 : ((if 0 < k then acc ++ ⟨#[44]⟩ else acc) ++ p).size ≤ acc.size + 1 + p.size := by
      rw [ba_size]
      split
      · rw [ba_size, show (ByteArray.mk #[44]).size = 1 from rfl]; omega
      · omega
    rw [joinF, List.length_cons, Nat.add_mul]
    omega
set_option maxHeartbeats 400000 in
theorem l7Vars_any {A : Option Addr} {c : Nat} {xs : List Int} {w : World} (hx : xs.length ≤ 1000000) (h1 : RI w A xs) :
    Calls Try.prog 204 #[.slice A xs.length c] w fun e w' => e = .returned (.string (par xs)) ∧ ∃ y, w' = ext w y := by
  go_enter Try.func204, Try.ntmps204
  go_wp2
  go_loopw [3, 4] (fun s i wr => ∃ (k : Nat) (acc : ByteArray), s = .string acc ∧ i = .int .i64 k ∧ k ≤ xs.length ∧ acc.size ≤ k + 1 ∧ nmG acc (xs.drop k) = ⟨#[40]⟩ ++ names xs ∧ ∃ y, wr = ext w y) (fun _ i _ => xs.length - (intOf i).toNat)
  case atStart => exact ⟨0, ⟨#[40]⟩, rfl, rfl, by omega, by decide, by rw [List.drop_zero, nmG_eq], refl_ext w⟩
  case round =>
    obtain ⟨k, acc, rfl, rfl, hk, ha, hj, hy⟩ := hrel
    have Hj := Lib.hid hj
    clear hj
    by_cases hlt : k < xs.length
    · obtain ⟨b, o, rfl, hb, hc⟩ := (h1.toExt hy).atI hlt
      have hs := vname_size xs[k]
      have hss := ba_size acc (vname xs[k])
      have He := Lib.hid ((nmG_step hlt).symm.trans Hj.out)
      go_wp2_with (go_at_call 200; refine (specVariableName_any _ _).mono ?_; rintro e w' ⟨rfl, rfl⟩)
      exact ⟨⟨k + 1, acc ++ vname xs[k], rfl, by go_num, by omega, by omega, He.out, hy⟩, by simp [intOf]; omega⟩
    · have e := Hj.out
      rw [nmG_end hlt] at e
      have He := Lib.hid (show acc ++ ⟨#[41]⟩ = par xs by rw [e]; rfl)
      have h41 : (ByteArray.mk #[41]).size = 1 := rfl
      clear e
      go_wp2
      go_ret
      exact ⟨by rw [← He.out]; rfl, hy⟩
theorem par_size (l : List Int) : (par l).size ≤ l.length + 2 := by
  have := names_size l
  unfold par
  rw [ba_size, ba_size, show (ByteArray.mk #[40]).size = 1 from rfl, show (ByteArray.mk #[41]).size = 1 from rfl]
  omega
set_option maxHeartbeats 4000000 in
theorem specFormatQuery_w {A B : Option Addr} {c e1 : Nat} {d : Qd} {w : World} (hb : WQ d) (h : vQ w [.int .i64 d.1, .slice A d.2.1.length c, .slice B d.2.2.length e1] d) :
    Calls Try.prog 201 #[.agg #[.int .i64 d.1, .slice A d.2.1.length c, .slice B d.2.2.length e1]] w fun e w' => e = .returned (.string (fmtQ d)) ∧ ∃ y, w' = ext w y := by
  have HB := Lib.hid hb
  have HV := Lib.hid h
  obtain ⟨r1, r2, _⟩ := vQ_get h
  have r1 := (vAts_get r1).2
  obtain ⟨z, ats, out⟩ := d
  dsimp only at r1 r2 ⊢
  clear h hb
  obtain ⟨t1, ht1⟩ : ∃ t, vqB (z, ats, out) = t := ⟨_, rfl⟩
  have N1 := Lib.hid ht1
  cases t1 with
  | false =>
    have HE := Lib.hid (show fmtQ (z, ats, out) = ⟨#[]⟩ by unfold fmtQ; rw [ht1]; rfl)
    clear ht1
    go_enter Try.func201, Try.ntmps201
    go_wp2_with (go_at_call 157; refine (specIsValidQuery_w (d := (z, ats, out)) HB.out (VD.toExt HV.out (by refine Chg.isExt (F := []) ?_ (refl_ext _) (by simp); repeat (with_reducible (first | exact Chg.refl _ _ | exact Nat.le_refl _ | exact Chg.ofExt (by assumption) | refine Chg.trans0 ?_ (by assumption) | refine Chg.extS ?_ _ | refine Chg.alloc ?_ _ | refine Chg.drew ?_ | refine Chg.setCellE ?_ ?_ _ | refine le_addk ?_ _ | refine le_ext ?_ | refine le_alloc ?_ _ | refine le_setC ?_ _ _ | refine le_drew ?_ | assumption | (refine Nat.le_of_lt ?_; omega) | omega))))).mono ?_; rintro e w1 ⟨rfl, hx1⟩; rw [N1.out])
    go_ret
    exact ⟨by rw [HE.out]; rfl, (by refine Chg.isExt (F := []) ?_ (refl_ext _) (by simp); repeat (with_reducible (first | exact Chg.refl _ _ | exact Nat.le_refl _ | exact Chg.ofExt (by assumption) | refine Chg.trans0 ?_ (by assumption) | refine Chg.extS ?_ _ | refine Chg.alloc ?_ _ | refine Chg.drew ?_ | refine Chg.setCellE ?_ ?_ _ | refine le_addk ?_ _ | refine le_ext ?_ | refine le_alloc ?_ _ | refine le_setC ?_ _ _ | refine le_drew ?_ | assumption | (refine Nat.le_of_lt ?_; omega) | omega)))⟩
  | true =>
    have HE := Lib.hid (fmtQ_par ht1)
    obtain ⟨g1, g2, g3⟩ := vqB_facts ht1
    dsimp only at g1 g2 g3
    have Hx := Lib.hid g3
    clear ht1 g3
    have z1 := par_size out
    have z5 : (ByteArray.mk #[61]).size = 1 := rfl
    have z2 := ba_size (par out) ⟨#[61]⟩
    go_enter Try.func201, Try.ntmps201
    go_wp2_with (first
      | (go_at_call 157; refine (specIsValidQuery_w (d := (z, ats, out)) HB.out (VD.toExt HV.out (by refine Chg.isExt (F := []) ?_ (refl_ext _) (by simp); repeat (with_reducible (first | exact Chg.refl _ _ | exact Nat.le_refl _ | exact Chg.ofExt (by assumption) | refine Chg.trans0 ?_ (by assumption) | refine Chg.extS ?_ _ | refine Chg.alloc ?_ _ | refine Chg.drew ?_ | refine Chg.setCellE ?_ ?_ _ | refine le_addk ?_ _ | refine le_ext ?_ | refine le_alloc ?_ _ | refine le_setC ?_ _ _ | refine le_drew ?_ | assumption | (refine Nat.le_of_lt ?_; omega) | omega))))).mono ?_; rintro e w1 ⟨rfl, hx1⟩; rw [N1.out]; have P1 := (BoxAt.new w #[.int .i64 z, .slice A ats.length c, .slice B out.length e1] 55).toExt hx1; obtain ⟨l1, a1, a1', a1'', f1⟩ := box3 P1)
      | (go_at_call 204; refine (l7Vars_any (by omega) (r2.toExt (by refine Chg.isExt (F := []) ?_ (refl_ext _) (by simp); repeat (with_reducible (first | exact Chg.refl _ _ | exact Nat.le_refl _ | exact Chg.ofExt (by assumption) | refine Chg.trans0 ?_ (by assumption) | refine Chg.extS ?_ _ | refine Chg.alloc ?_ _ | refine Chg.drew ?_ | refine Chg.setCellE ?_ ?_ _ | refine le_addk ?_ _ | refine le_ext ?_ | refine le_alloc ?_ _ | refine le_setC ?_ _ _ | refine le_drew ?_ | assumption | (refine Nat.le_of_lt ?_; omega) | omega))))).mono ?_; rintro e w2 ⟨rfl, hx2⟩))
    have hxw : ∃ y, w1 = ext w y := (by refine Chg.isExt (F := []) ?_ (refl_ext _) (by simp); repeat (with_reducible (first | exact Chg.refl _ _ | exact Nat.le_refl _ | exact Chg.ofExt (by assumption) | refine Chg.trans0 ?_ (by assumption) | refine Chg.extS ?_ _ | refine Chg.alloc ?_ _ | refine Chg.drew ?_ | refine Chg.setCellE ?_ ?_ _ | refine le_addk ?_ _ | refine le_ext ?_ | refine le_alloc ?_ _ | refine le_setC ?_ _ _ | refine le_drew ?_ | assumption | (refine Nat.le_of_lt ?_; omega) | omega)))
    go_loopw [3, 4] (fun v i wr => ∃ (k : Nat) (acc : ByteArray), i = .int .i64 k ∧ v = .string acc ∧ k ≤ ats.length ∧ acc.size ≤ 10 + 30 * k ∧ joinF ⟨#[44]⟩ k acc ((ats.drop k).map atomT) = joinF ⟨#[44]⟩ 0 (par out ++ ⟨#[61]⟩) (ats.map atomT) ∧ ∃ y, wr = ext w1 y) (fun _ i _ => ats.length - (intOf i).toNat)
    case atStart => exact ⟨0, _, rfl, rfl, by omega, by omega, by simp, hx2⟩
    case round =>
      obtain ⟨k, acc, rfl, rfl, hk, ha, hj, hy⟩ := hrel
      have Hj := Lib.hid hj
      clear hj
      obtain ⟨l2, a2, a2', a2'', f2⟩ := box3 (P1.toExt hy)
      by_cases hlt : k < ats.length
      · obtain ⟨b, o, A', c', rfl, hb, hc, hd, hv⟩ := (r1.toExt (trans_ext hxw hy)).atA hlt
        obtain ⟨x1, x2⟩ := Hx.out ats[k] (List.getElem_mem hlt)
        have HA := Lib.hid (atomT_par ats[k])
        have e := Hj.out
        rw [List.drop_eq_getElem_cons hlt, List.map_cons, joinF] at e
        obtain ⟨s, hs⟩ : ∃ s, ats[k].1 = s := ⟨_, rfl⟩
        obtain ⟨xs, hxs⟩ : ∃ xs, ats[k].2 = xs := ⟨_, rfl⟩
        rw [← atomT_par, hs, hxs] at e
        rw [hs] at hc x1
        rw [hxs] at hd hv x2
        have y1 := par_size xs
        have y5 : (ByteArray.mk #[44]).size = 1 := rfl
        clear hs hxs
        by_cases h0 : 0 < k
        · rw [if_pos h0] at e
          have y2 := ba_size acc ⟨#[44]⟩
          have y3 := ba_size (acc ++ ⟨#[44]⟩) s
          have y4 := ba_size (acc ++ ⟨#[44]⟩ ++ s) (par xs)
          have He := Lib.hid (show joinF ⟨#[44]⟩ (k + 1) (acc ++ ⟨#[44]⟩ ++ s ++ par xs) ((ats.drop (k + 1)).map atomT) = joinF ⟨#[44]⟩ 0 (par out ++ ⟨#[61]⟩) (ats.map atomT) by rw [← e, ba_assoc (acc ++ ⟨#[44]⟩)])
          clear e
          go_wp2
          refine wp_region_ext (by kernel_rfl) (by kernel_rfl) ?_
          repeat (go_big_quiet_step ((go_at_call 204; exact quietE (l7Vars_any (by omega) hv.ext))))
          refine wpQuiet_nil ?_
          rintro _ ⟨zz, rfl⟩
          go_wp2
          exact ⟨⟨k + 1, acc ++ ⟨#[44]⟩ ++ s ++ par xs, by go_num, rfl, by omega, by omega, He.out, (by refine Chg.isExt (F := []) ?_ (refl_ext _) (by simp); repeat (with_reducible (first | exact Chg.refl _ _ | exact Nat.le_refl _ | exact Chg.ofExt (by assumption) | refine Chg.trans0 ?_ (by assumption) | refine Chg.extS ?_ _ | refine Chg.alloc ?_ _ | refine Chg.drew ?_ | refine Chg.setCellE ?_ ?_ _ | refine le_addk ?_ _ | refine le_ext ?_ | refine le_alloc ?_ _ | refine le_setC ?_ _ _ | refine le_drew ?_ | assumption | (refine Nat.le_of_lt ?_; omega) | omega)))⟩, by simp [intOf]; omega⟩
        · rw [if_neg h0] at e
          have y3 := ba_size acc s
          have y4 := ba_size (acc ++ s) (par xs)
          have He := Lib.hid (show joinF ⟨#[44]⟩ (k + 1) (acc ++ s ++ par xs) ((ats.drop (k + 1)).map atomT) = joinF ⟨#[44]⟩ 0 (par out ++ ⟨#[61]⟩) (ats.map atomT) by rw [← e, ba_assoc acc])
          clear e
          go_wp2
          refine wp_region_ext (by kernel_rfl) (by kernel_rfl) ?_
          repeat (go_big_quiet_step ((go_at_call 204; exact quietE (l7Vars_any (by omega) hv.ext))))
          refine wpQuiet_nil ?_
          rintro _ ⟨zz, rfl⟩
          go_wp2
          exact ⟨⟨k + 1, acc ++ s ++ par xs, by go_num, rfl, by omega, by omega, He.out, (by refine Chg.isExt (F := []) ?_ (refl_ext _) (by simp); repeat (with_reducible (first | exact Chg.refl _ _ | exact Nat.le_refl _ | exact Chg.ofExt (by assumption) | refine Chg.trans0 ?_ (by assumption) | refine Chg.extS ?_ _ | refine Chg.alloc ?_ _ | refine Chg.drew ?_ | refine Chg.setCellE ?_ ?_ _ | refine le_addk ?_ _ | refine le_ext ?_ | refine le_alloc ?_ _ | refine le_setC ?_ _ _ | refine le_drew ?_ | assumption | (refine Nat.le_of_lt ?_; omega) | omega)))⟩, by simp [intOf]; omega⟩
      · have e := Hj.out
        rw [List.drop_eq_nil_of_le (by omega), List.map_nil, joinF] at e
        have He := Lib.hid (e.trans HE.out)
        clear e
        go_wp2
        go_ret
        exact ⟨by rw [← He.out]; rfl, (by refine Chg.isExt (F := []) ?_ (refl_ext _) (by simp); repeat (with_reducible (first | exact Chg.refl _ _ | exact Nat.le_refl _ | exact Chg.ofExt (by assumption) | refine Chg.trans0 ?_ (by assumption) | refine Chg.extS ?_ _ | refine Chg.alloc ?_ _ | refine Chg.drew ?_ | refine Chg.setCellE ?_ ?_ _ | refine le_addk ?_ _ | refine le_ext ?_ | refine le_alloc ?_ _ | refine le_setC ?_ _ _ | refine le_drew ?_ | assumption | (refine Nat.le_of_lt ?_; omega) | omega)))⟩
theorem specFormatQuery_any {A B : Option Addr} {c e1 : Nat} {d : Qd} {w : World} (hb : BQ d) (h : vQ w [.int .i64 d.1, .slice A d.2.1.length c, .slice B d.2.2.length e1] d) :
    Calls Try.prog 201 #[.agg #[.int .i64 d.1, .slice A d.2.1.length c, .slice B d.2.2.length e1]] w fun e w' => e = .returned (.string (fmtQ d)) ∧ ∃ y, w' = ext w y := specFormatQuery_w hb.w h
end Go.Proofs.Ytfigcfajkilhiaa

/- The neighbours of a variable: the plain way of it. -/
namespace Go.Proofs.Ytfigcfajkilhiaa
open Go.RowKit

def nbG (v : Int) : List Int → List At → List Int
  | acc, [] => acc
  | acc, a :: al => nbG v (if decide (v ∈ a.2) = true then uniL acc (avars 5 0 a.2) else acc) al
def nearP (v w : Int) (a : At) : Bool := decide (w ≠ v) && decide (v ∈ a.2) && decide (w ∈ a.2)
def nearS (ats : List At) (v w : Int) : Bool := ats.any (nearP v w)
def nbrs (d : Qd) (v : Int) : List Int := if vqB d = true then selF (nearS d.2.1 v) d.1.toNat 0 else []
theorem nbG_step {v : Int} {acc : List Int} {ats : List At} {k : Nat} (h : k < ats.length) : nbG v acc (ats.drop k) = nbG v (if decide (v ∈ ats[k].2) = true then uniL acc (avars 5 0 ats[k].2) else acc) (ats.drop (k + 1)) := by
  rw [List.drop_eq_getElem_cons h, nbG]
theorem nbG_end {v : Int} {acc : List Int} {ats : List At} {k : Nat} (h : ¬ k < ats.length) : nbG v acc (ats.drop k) = acc := by
  rw [List.drop_eq_nil_of_le (by omega), nbG]
theorem mem_nbG {v x : Int} : ∀ {ats : List At} {acc : List Int}, x ∈ nbG v acc ats ↔ x ∈ acc ∨ ∃ a ∈ ats, v ∈ a.2 ∧ x ∈ avars 5 0 a.2
  | [], acc => by simp [nbG]
  | a :: al, acc => by
    rw [nbG, mem_nbG (ats := al)]
    by_cases hv : v ∈ a.2
    · rw [if_pos (by simpa using hv), mem_uniL]
      constructor
      · rintro ((h | h) | ⟨b, hb, h1, h2⟩)
        · exact .inl h
        · exact .inr ⟨a, by simp, hv, h⟩
        · exact .inr ⟨b, by simp [hb], h1, h2⟩
      · rintro (h | ⟨b, hb, h1, h2⟩)
        · exact .inl (.inl h)
        · rcases List.mem_cons.1 hb with e | e
          · subst e; exact .inl (.inr h2)
          · exact .inr ⟨b, e, h1, h2⟩
    · rw [if_neg (by simpa using hv)]
      constructor
      · rintro (h | ⟨b, hb, h1, h2⟩)
        · exact .inl h
        · exact .inr ⟨b, by simp [hb], h1, h2⟩
      · rintro (h | ⟨b, hb, h1, h2⟩)
        · exact .inl h
        · rcases List.mem_cons.1 hb with e | e
          · subst e; exact absurd h1 hv
          · exact .inr ⟨b, e, h1, h2⟩
theorem asc_nbG {v : Int} : ∀ {ats : List At} {acc : List Int}, Asc acc → Asc (nbG v acc ats)
  | [], _, h => h
  | a :: al, acc, h => by
    rw [nbG]
    split
    · exact asc_nbG (asc_uniL h)
    · exact asc_nbG h
theorem vqB_vars {d : Qd} (h : vqB d = true) : 1 ≤ d.1 ∧ d.1 ≤ 5 ∧ ∀ a ∈ d.2.1, ∀ v ∈ a.2, 0 ≤ v ∧ v < d.1 := by
  unfold vqB at h
  simp only [Bool.and_eq_true, List.all_eq_true] at h
  obtain ⟨⟨⟨⟨h1, _⟩, _⟩, h4⟩, _⟩ := h
  have h1 := inB_t h1
  refine ⟨h1.1, h1.2, fun a ha v hv => ?_⟩
  have h5 := h4 a ha
  unfold atomB at h5
  simp only [Bool.and_eq_true, List.all_eq_true] at h5
  have := inB_t (h5.2 v hv)
  omega
theorem nb_eq {d : Qd} {v : Int} (h : vqB d = true) : strike v (nbG v [] d.2.1) = nbrs d v := by
  obtain ⟨h1, h2, h3⟩ := vqB_vars h
  unfold nbrs
  rw [if_pos h]
  refine asc_ext (asc_strike (asc_nbG asc_nil)) (asc_selF _ _) fun x => ?_
  rw [mem_strike, mem_nbG, mem_selF]
  unfold nearS nearP
  simp only [List.any_eq_true, Bool.and_eq_true, decide_eq_true_eq, mem_avars]
  constructor
  · rintro ⟨h4 | ⟨a, ha, h5, h6, h7, h8⟩, h9⟩
    · simp at h4
    · have := h3 a ha x h8
      exact ⟨by omega, by omega, a, ha, ⟨h9, h5⟩, h8⟩
  · rintro ⟨h4, h5, a, ha, ⟨h6, h7⟩, h8⟩
    exact ⟨.inr ⟨a, ha, h7, by omega, by omega, h8⟩, h6⟩
theorem nbrs_length (d : Qd) (v : Int) : (nbrs d v).length ≤ 5 := by
  unfold nbrs
  split
  · rename_i h
    obtain ⟨h1, h2, _⟩ := vqB_vars h
    have := selF_length (p := nearS d.2.1 v) d.1.toNat 0
    omega
  · simp
theorem nbG_length {v : Int} : ∀ {ats : List At} {acc : List Int}, (nbG v acc ats).length ≤ acc.length + 5 * ats.length
  | [], acc => by simp [nbG]
  | a :: al, acc => by
    rw [nbG]
    have h1 := avars_length 5 0 a.2
    have h2 := uniL_length (avars 5 0 a.2) acc
    split
    · have := nbG_length (v := v) (ats := al) (acc := uniL acc (avars 5 0 a.2))
      rw [List.length_cons]; omega
    · have := nbG_length (v := v) (ats := al) (acc := acc)
      rw [List.length_cons]; omega
end Go.Proofs.Ytfigcfajkilhiaa

/- Bindings of queries: the rows of an atom, all assignments for which every atom holds; the program's way and the reference's come to the same. No program in it. -/
namespace Go.Proofs.Ytfigcfajkilhiaa
open Go.RowKit

theorem map_at' {l : List Int} {h g : Int → Int} (e : l.map h = l.map g) : ∀ v ∈ l, h v = g v := fun v hv => List.map_inj_left.1 e v hv
def relOf (d : Dbd) (a : At) : Rd := (lookD d a.1).getD (0, [])
def atFit (d : Dbd) (a : At) : Bool := match lookD d a.1 with | some r => decide (r.1 = (a.2.length : Int)) | none => false
def iqfB (d : Dbd) (q : Qd) : Bool := vqB q && dbB d && q.2.1.all (atFit d)
/-- repeated variables have the same value -/
def rowFit (vars row : List Int) : Bool := decide (vars.map (valAt vars row) = row)
def atomBd (d : Dbd) (a : At) : Rd :=
  (((avars 5 0 a.2).length : Int), if atFit d a = true ∧ ∀ v ∈ a.2, 0 ≤ v ∧ v ≤ 4 then sortR (((relOf d a).2.filter (rowFit a.2)).map fun row => (avars 5 0 a.2).map (valAt a.2 row)) else [])
def atomVR (d : Dbd) (a : At) : VRd := (avars 5 0 a.2, atomBd d a)
theorem mem_av5 {xs : List Int} {x : Int} (h : ∀ v ∈ xs, 0 ≤ v ∧ v ≤ 4) : x ∈ avars 5 0 xs ↔ x ∈ xs := by
  rw [mem_avars]
  constructor
  · exact fun h => h.2.2
  · intro hx
    have := h x hx
    exact ⟨by omega, by omega, hx⟩
theorem atFit_some {d : Dbd} {a : At} (h : atFit d a = true) : dbB d = true ∧ TOk (a.1, relOf d a) ∧ (relOf d a).1 = (a.2.length : Int) := by
  unfold atFit at h
  cases e : lookD d a.1 with
  | none => rw [e] at h; cases h
  | some r =>
    rw [e] at h
    have h2 := lookD_ok e
    have er : relOf d a = r := by unfold relOf; rw [e]; rfl
    rw [er]
    exact ⟨h2.1, h2.2, by simpa using h⟩
theorem mem_atom {d : Dbd} {a : At} (hf : atFit d a = true) (hv : ∀ v ∈ a.2, 0 ≤ v ∧ v ≤ 4) {t : List Int} : t ∈ (atomBd d a).2 ↔ ∃ g : Int → Int, (avars 5 0 a.2).map g = t ∧ a.2.map g ∈ (relOf d a).2 := by
  unfold atomBd
  simp only
  rw [if_pos ⟨hf, hv⟩, mem_sortR, List.mem_map]
  constructor
  · rintro ⟨row, hr, rfl⟩
    rw [List.mem_filter] at hr
    have h2 : a.2.map (valAt a.2 row) = row := by simpa [rowFit] using hr.2
    exact ⟨valAt a.2 row, rfl, by rw [h2]; exact hr.1⟩
  · rintro ⟨g, rfl, hg⟩
    refine ⟨a.2.map g, List.mem_filter.2 ⟨hg, ?_⟩, List.map_congr_left fun v hm => valAt_map ((mem_av5 hv).1 hm)⟩
    unfold rowFit
    rw [decide_eq_true_eq]
    exact List.map_congr_left fun v hm => valAt_map hm
theorem atomBd_ok {d : Dbd} {a : At} : VrOk (atomVR d a) := by
  have hlo : ∀ v ∈ avars 5 0 a.2, 0 ≤ v ∧ v ≤ 4 := fun v hv => by
    have := (mem_avars 5 0 _ _).1 hv
    omega
  have hasc := asc_avars 5 0 a.2
  unfold atomVR atomBd
  by_cases hc : atFit d a = true ∧ ∀ v ∈ a.2, 0 ≤ v ∧ v ≤ 4
  · rw [if_pos hc]
    obtain ⟨_, hT, hl⟩ := atFit_some hc.1
    have hr := rowsB_iff.1 hT.rel
    have hcnt := hT.cnt
    refine ⟨hasc, hlo, asc_len5 hasc hlo, rfl, ?_, fun r hr => ?_, fun r hrm => ?_, asc_sortR _⟩
    · refine Nat.le_trans (sortR_length _) ?_
      rw [List.length_map]
      refine Nat.le_trans (List.length_filter_le _ _) ?_
      simp only at hcnt ⊢
      omega
    · obtain ⟨row, _, rfl⟩ := List.mem_map.1 (mem_sortR.1 hr)
      simp
    · obtain ⟨row, h2, rfl⟩ := List.mem_map.1 (mem_sortR.1 hrm)
      rw [List.mem_filter] at h2
      have h3 := hr.2.2.2.1 row h2.1
      rw [rowV_iff]
      intro x hx
      obtain ⟨v, hv, rfl⟩ := List.mem_map.1 hx
      refine rowV_iff.1 h3.2 _ (valAt_mem ((mem_av5 hc.2).1 hv) ?_)
      have := h3.1
      simp only at this
      omega
  · rw [if_neg hc]
    exact ⟨hasc, hlo, asc_len5 hasc hlo, rfl, by simp, by simp, by simp, ascR_nil⟩
theorem atomBd_cnt {d : Dbd} {a : At} : (atomBd d a).2.length ≤ 16 := by
  unfold atomBd
  simp only
  split
  · rename_i hc
    obtain ⟨_, hT, _⟩ := atFit_some hc.1
    refine Nat.le_trans (sortR_length _) ?_
    rw [List.length_map]
    exact Nat.le_trans (List.length_filter_le _ _) hT.cnt
  · simp

/-! ### all bindings -/
/-- one atom's row laid over a row not yet whole -/
def fitX : List Int → List Int → List Int → Option (List Int)
  | x, v :: vs, y :: ys => if x.getD v.toNat 0 = -1 ∨ x.getD v.toNat 0 = y then fitX (x.set v.toNat y) vs ys else none
  | x, _, _ => some x
def walkL (d : Dbd) : List At → List Int → List (List Int)
  | [], row => [row]
  | a :: ats, row => (relOf d a).2.flatMap fun r => match fitX row a.2 r with | some x => walkL d ats x | none => []
def allB (d : Dbd) (q : Qd) : List (List Int) := sortR (walkL d q.2.1 (List.replicate q.1.toNat (-1)))
def bindR (d : Dbd) (q : Qd) : Option Rd := if iqfB d q = true ∧ (allB d q).length ≤ 4000 then some (q.1, allB d q) else none
/-- the program's way -/
def stepB (d : Dbd) (s : List Int × List (List Int)) (a : At) : List Int × List (List Int) := (uniL s.1 (avars 5 0 a.2), joinL (uniL s.1 (avars 5 0 a.2)) s.1 s.2 (avars 5 0 a.2) (atomBd d a).2)
def foldB (d : Dbd) (ats : List At) : List Int × List (List Int) := ats.foldl (stepB d) ([], [[]])

theorem getD_set_self {x : List Int} {i : Nat} {y : Int} (h : i < x.length) : (x.set i y).getD i 0 = y := by
  rw [getDl _ _ (by simpa using h)]; simp
theorem getD_set_ne {x : List Int} {i j : Nat} {y : Int} (h : i ≠ j) : (x.set i y).getD j 0 = x.getD j 0 := by
  simp only [List.getD_eq_getElem?_getD, List.getElem?_set, if_neg h]
/-- z is x, filled in further -/
def Over (x z : List Int) : Prop := z.length = x.length ∧ ∀ i, i < x.length → x.getD i 0 ≠ -1 → z.getD i 0 = x.getD i 0
theorem fitX_iff : ∀ {vs ys : List Int} {x z : List Int}, vs.length = ys.length → (∀ v ∈ vs, 0 ≤ v ∧ v < x.length) → (∀ y ∈ ys, y ≠ -1) →
    (fitX x vs ys = some z ↔ Over x z ∧ pickL z vs = ys ∧ ∀ i, i < x.length → x.getD i 0 = -1 → (i : Int) ∉ vs → z.getD i 0 = -1)
  | [], [], x, z, _, _, _ => by
    simp only [fitX, Option.some.injEq]
    constructor
    · rintro rfl
      exact ⟨⟨rfl, fun _ _ _ => rfl⟩, rfl, fun _ _ h _ => h⟩
    · rintro ⟨⟨h1, h2⟩, _, h3⟩
      apply List.ext_getElem h1.symm
      intro i h4 h5
      have e1 : x[i] = x.getD i 0 := (getDl _ _ h4).symm
      have e2 : z[i] = z.getD i 0 := (getDl _ _ h5).symm
      rw [e1, e2]
      by_cases h6 : x.getD i 0 = -1
      · rw [h6, h3 i h4 h6 (by simp)]
      · exact (h2 i h4 h6).symm
  | [], _ :: _, _, _, h, _, _ => by simp at h
  | _ :: _, [], _, _, h, _, _ => by simp at h
  | v :: vs, y :: ys, x, z, hl, hv, hy => by
    have hv0 := hv v (by simp)
    have hy0 := hy y (by simp)
    obtain ⟨n, rfl⟩ := Int.eq_ofNat_of_zero_le hv0.1
    have hn : n < x.length := by omega
    rw [fitX, Int.toNat_natCast]
    by_cases hc : x.getD n 0 = -1 ∨ x.getD n 0 = y
    · rw [if_pos hc, fitX_iff (x := x.set n y) (by simpa using hl) (by simpa using fun u hu => hv u (by simp [hu])) (fun u hu => hy u (by simp [hu]))]
      constructor
      · rintro ⟨⟨h1, h2⟩, h3, h4⟩
        rw [List.length_set] at h1 h2 h4
        have hz : z.getD n 0 = y := by
          rw [h2 n hn (by rw [getD_set_self hn]; exact hy0), getD_set_self hn]
        refine ⟨⟨h1, fun i hi hx => ?_⟩, ?_, fun i hi hx hm => ?_⟩
        · by_cases e : n = i
          · subst e
            rcases hc with hc | hc
            · exact absurd hc hx
            · rw [hz, hc]
          · have := h2 i hi (by rw [getD_set_ne e]; exact hx)
            rwa [getD_set_ne e] at this
        · unfold pickL at h3 ⊢
          rw [List.map_cons, h3, Int.toNat_natCast, hz]
        · rw [List.mem_cons, not_or] at hm
          have e : n ≠ i := fun e => hm.1 (by rw [e])
          exact h4 i hi (by rw [getD_set_ne e]; exact hx) hm.2
      · rintro ⟨⟨h1, h2⟩, h3, h4⟩
        unfold pickL at h3
        rw [List.map_cons, List.cons.injEq, Int.toNat_natCast] at h3
        refine ⟨⟨by rw [List.length_set]; exact h1, fun i hi hx => ?_⟩, h3.2, fun i hi hx hm => ?_⟩
        · rw [List.length_set] at hi
          by_cases e : n = i
          · subst e
            rw [getD_set_self hn]; exact h3.1
          · rw [getD_set_ne e] at hx ⊢
            exact h2 i hi hx
        · rw [List.length_set] at hi
          by_cases e : n = i
          · subst e
            rw [getD_set_self hn] at hx
            exact absurd hx hy0
          · rw [getD_set_ne e] at hx
            exact h4 i hi hx (by rw [List.mem_cons, not_or]; exact ⟨fun k => e (by omega), hm⟩)
    · rw [if_neg hc]
      constructor
      · intro h; cases h
      · rintro ⟨⟨h1, h2⟩, h3, h4⟩
        exfalso
        unfold pickL at h3
        rw [List.map_cons, List.cons.injEq, Int.toNat_natCast] at h3
        rw [not_or] at hc
        exact hc.2 (by rw [← h2 n hn hc.1, h3.1])
/-- every atom holds -/
def Holds (d : Dbd) (ats : List At) (z : List Int) : Prop := ∀ a ∈ ats, pickL z a.2 ∈ (relOf d a).2
theorem walkL_iff {d : Dbd} : ∀ {ats : List At} {x z : List Int}, (∀ a ∈ ats, atFit d a = true ∧ ∀ v ∈ a.2, 0 ≤ v ∧ v < x.length) →
    (z ∈ walkL d ats x ↔ Over x z ∧ Holds d ats z ∧ ∀ i, i < x.length → x.getD i 0 = -1 → (∀ a ∈ ats, (i : Int) ∉ a.2) → z.getD i 0 = -1)
  | [], x, z, _ => by
    rw [walkL, List.mem_singleton]
    have := fitX_iff (vs := []) (ys := []) (x := x) (z := z) rfl (by simp) (by simp)
    simp only [fitX, Option.some.injEq] at this
    rw [eq_comm, this]
    simp [Holds, pickL]
  | a :: ats, x, z, h => by
    obtain ⟨hf, hv⟩ := h a (by simp)
    obtain ⟨_, hT, hl⟩ := atFit_some hf
    have hr := (rowsB_iff.1 hT.rel).2.2.2.1
    simp only at hr
    rw [walkL, List.mem_flatMap]
    constructor
    · rintro ⟨r, hrm, hz⟩
      have h1 := hr r hrm
      have hfx := fun x' => fitX_iff (vs := a.2) (ys := r) (x := x) (z := x') (by omega) hv (fun y hy => by have := (rowV_iff.1 h1.2 y hy).1; omega)
      cases e : fitX x a.2 r with
      | none => rw [e] at hz; simp at hz
      | some x' =>
        rw [e] at hz
        obtain ⟨⟨o1, o2⟩, p1, u1⟩ := (hfx x').1 e
        have ih := (walkL_iff (d := d) (ats := ats) (x := x') (z := z) (fun b hb => by rw [o1]; exact h b (by simp [hb]))).1 hz
        obtain ⟨⟨q1, q2⟩, q3, q4⟩ := ih
        have hzx : ∀ i, i < x.length → x'.getD i 0 ≠ -1 → z.getD i 0 = x'.getD i 0 := fun i hi h => q2 i (by omega) h
        refine ⟨⟨by omega, fun i hi hx => ?_⟩, fun b hb => ?_, fun i hi hx hm => ?_⟩
        · rw [hzx i hi (by rw [o2 i hi hx]; exact hx), o2 i hi hx]
        · rcases List.mem_cons.1 hb with e | e
          · subst e
            have : pickL z b.2 = pickL x' b.2 := by
              unfold pickL
              refine List.map_congr_left fun v hvm => ?_
              have hb2 := hv v hvm
              refine hzx v.toNat (by omega) ?_
              have hp : x'.getD v.toNat 0 ∈ pickL x' b.2 := List.mem_map.2 ⟨v, hvm, rfl⟩
              rw [p1] at hp
              have := (rowV_iff.1 h1.2 _ hp).1
              omega
            rw [this, p1]
            exact hrm
          · exact q3 b e
        · refine q4 i (by omega) (u1 i hi hx (hm a (by simp))) fun b hb => hm b (by simp [hb])
    · rintro ⟨⟨o1, o2⟩, hH, u1⟩
      refine ⟨pickL z a.2, hH a (by simp), ?_⟩
      have h1 := hr _ (hH a (by simp))
      -- what is laid over x so far
      obtain ⟨x', hx'⟩ : ∃ x' : List Int, x' = (List.range x.length).map fun (i : Nat) => if (i : Int) ∈ a.2 then z.getD i 0 else x.getD i 0 := ⟨_, rfl⟩
      have hlx : x'.length = x.length := by rw [hx']; simp
      have hgx : ∀ i, i < x.length → x'.getD i 0 = if (i : Int) ∈ a.2 then z.getD i 0 else x.getD i 0 := fun i hi => by
        rw [hx', getDl _ _ (by simpa using hi)]; simp
      have e : fitX x a.2 (pickL z a.2) = some x' := by
        rw [fitX_iff (by simp [pickL]) hv (fun y hy => by have := (rowV_iff.1 h1.2 y hy).1; omega)]
        refine ⟨⟨hlx, fun i hi hx => ?_⟩, ?_, fun i hi hx hm => ?_⟩
        · rw [hgx i hi]; split
          · exact o2 i hi hx
          · rfl
        · unfold pickL
          refine List.map_congr_left fun v hvm => ?_
          have hb := hv v hvm
          rw [hgx _ (by omega), if_pos (by rw [Int.toNat_of_nonneg hb.1]; exact hvm)]
        · rw [hgx i hi, if_neg hm]; exact hx
      rw [e]
      rw [walkL_iff (fun b hb => by rw [hlx]; exact h b (by simp [hb]))]
      refine ⟨⟨by omega, fun i hi hx => ?_⟩, fun b hb => hH b (by simp [hb]), fun i hi hx hm => ?_⟩
      · rw [hlx] at hi
        rw [hgx i hi] at hx ⊢
        split
        · rfl
        · rename_i k
          rw [if_neg k] at hx
          exact o2 i hi hx
      · rw [hlx] at hi
        by_cases k : (i : Int) ∈ a.2
        · rw [hgx i hi, if_pos k] at hx; exact hx
        · rw [hgx i hi, if_neg k] at hx
          exact u1 i hi hx fun b hb => by
            rcases List.mem_cons.1 hb with e | e
            · subst e; exact k
            · exact hm b e

/-- what is known of a query that fits a database -/
structure QOk (d : Dbd) (q : Qd) : Prop where
  n1 : 1 ≤ q.1
  n5 : q.1 ≤ 5
  db : dbB d = true
  at1 : 1 ≤ q.2.1.length
  at4 : q.2.1.length ≤ 4
  fit : ∀ a ∈ q.2.1, atFit d a = true
  vars : ∀ a ∈ q.2.1, ∀ v ∈ a.2, 0 ≤ v ∧ v < q.1
  cov : ∀ v : Int, 0 ≤ v → v < q.1 → ∃ a ∈ q.2.1, v ∈ a.2
  out : ∀ v ∈ q.2.2, 0 ≤ v ∧ v < q.1
theorem mem_allB {d : Dbd} {q : Qd} (h : QOk d q) {z : List Int} : z ∈ allB d q ↔ (z.length : Int) = q.1 ∧ Holds d q.2.1 z := by
  have h1 := h.n1
  unfold allB
  rw [mem_sortR, walkL_iff (fun a ha => ⟨h.fit a ha, fun v hv => by have := h.vars a ha v hv; simp; omega⟩)]
  simp only [List.length_replicate]
  constructor
  · rintro ⟨⟨o1, _⟩, h2, _⟩
    rw [List.length_replicate] at o1
    exact ⟨by omega, h2⟩
  · rintro ⟨h2, h3⟩
    refine ⟨⟨by rw [List.length_replicate]; omega, fun i hi hx => ?_⟩, h3, fun i hi _ hm => ?_⟩
    · rw [List.length_replicate] at hi
      rw [getDl _ _ (by simpa using hi), List.getElem_replicate] at hx
      exact absurd rfl hx
    · obtain ⟨a, ha, hv⟩ := h.cov (i : Int) (by omega) (by omega)
      exact absurd hv (hm a ha)
def idV (n : Int) : List Int := (List.range n.toNat).map fun (i : Nat) => (i : Int)
theorem mem_idV {n v : Int} : v ∈ idV n ↔ 0 ≤ v ∧ v < n := by
  unfold idV
  rw [List.mem_map]
  constructor
  · rintro ⟨i, hi, rfl⟩
    have := List.mem_range.1 hi
    omega
  · rintro ⟨h1, h2⟩
    exact ⟨v.toNat, List.mem_range.2 (by omega), by omega⟩
theorem asc_idV (n : Int) : Asc (idV n) := List.pairwise_map.2 (List.Pairwise.imp (fun {a b} h => by omega) List.pairwise_lt_range)
theorem idV_get {n : Int} {g : Int → Int} {v : Int} (h : 0 ≤ v ∧ v < n) : ((idV n).map g).getD v.toNat 0 = g v := by
  unfold idV
  rw [List.map_map, getDl _ _ (by simp; omega)]
  simp [Int.toNat_of_nonneg h.1]
theorem pick_idV {n : Int} {g : Int → Int} {l : List Int} (h : ∀ v ∈ l, 0 ≤ v ∧ v < n) : pickL ((idV n).map g) l = l.map g := List.map_congr_left fun v hv => idV_get (h v hv)
theorem holds_map {d : Dbd} {q : Qd} (h : QOk d q) {g : Int → Int} : Holds d q.2.1 ((idV q.1).map g) ↔ ∀ a ∈ q.2.1, a.2.map g ∈ (relOf d a).2 := by
  unfold Holds
  constructor
  · intro hh a ha
    have := hh a ha
    rwa [pick_idV (h.vars a ha)] at this
  · intro hh a ha
    rw [pick_idV (h.vars a ha)]
    exact hh a ha
theorem row_map {n : Int} {z : List Int} (h : (z.length : Int) = n) : (idV n).map (fun v => z.getD v.toNat 0) = z := by
  subst h
  apply List.ext_getElem
  · simp [idV]
  · intro i h1 h2
    simp only [idV, List.map_map, List.getElem_map, List.getElem_range, Function.comp, Int.toNat_natCast]
    exact getDl _ _ h2
theorem allB_g {d : Dbd} {q : Qd} (h : QOk d q) {z : List Int} : z ∈ allB d q ↔ ∃ g : Int → Int, (idV q.1).map g = z ∧ ∀ a ∈ q.2.1, a.2.map g ∈ (relOf d a).2 := by
  rw [mem_allB h]
  constructor
  · rintro ⟨h1, h2⟩
    refine ⟨_, row_map h1, ?_⟩
    rw [← holds_map h, row_map h1]
    exact h2
  · rintro ⟨g, rfl, hg⟩
    have := h.n1
    exact ⟨by simp [idV]; omega, (holds_map h).2 hg⟩
theorem snoc_ind {α : Type} {P : List α → Prop} (h0 : P []) (h1 : ∀ l a, P l → P (l ++ [a])) (l : List α) : P l := by
  rw [← List.reverse_reverse l]
  induction l.reverse with
  | nil => exact h0
  | cons a l ih => rw [List.reverse_cons]; exact h1 _ _ ih
/-- the program's fold -/
theorem foldB_iff {d : Dbd} : ∀ {ats : List At}, (∀ a ∈ ats, atFit d a = true ∧ ∀ v ∈ a.2, 0 ≤ v ∧ v ≤ 4) →
    Asc (foldB d ats).1 ∧ (∀ v, v ∈ (foldB d ats).1 ↔ ∃ a ∈ ats, v ∈ a.2) ∧ ∀ t, t ∈ (foldB d ats).2 ↔ ∃ g : Int → Int, (foldB d ats).1.map g = t ∧ ∀ a ∈ ats, a.2.map g ∈ (relOf d a).2 := by
  intro ats
  induction ats using snoc_ind with
  | h0 =>
    intro _
    refine ⟨asc_nil, by simp [foldB], fun t => ?_⟩
    simp [foldB, eq_comm]
  | h1 ats a ih =>
    intro h
    obtain ⟨i1, i2, i3⟩ := ih fun b hb => h b (by simp [hb])
    obtain ⟨hf, hv⟩ := h a (by simp)
    have e : foldB d (ats ++ [a]) = stepB d (foldB d ats) a := by simp [foldB]
    obtain ⟨s, hs⟩ : ∃ s, foldB d ats = s := ⟨_, rfl⟩
    rw [hs] at i1 i2 i3 e
    rw [e]
    have hok := atomBd_ok (d := d) (a := a)
    have hm : ∀ v, v ∈ uniL s.1 (avars 5 0 a.2) ↔ ∃ b ∈ ats ++ [a], v ∈ b.2 := fun v => by
      rw [mem_uniL, i2, mem_av5 hv]
      simp only [List.mem_append, List.mem_singleton]
      constructor
      · rintro (⟨b, hb, k⟩ | k)
        · exact ⟨b, .inl hb, k⟩
        · exact ⟨a, .inr rfl, k⟩
      · rintro ⟨b, hb | rfl, k⟩
        · exact .inl ⟨b, hb, k⟩
        · exact .inr k
    refine ⟨asc_uniL i1, hm, fun t => ?_⟩
    unfold stepB
    simp only
    rw [mem_joinL (va := s.1) (ra := s.2) (vb := avars 5 0 a.2) (rb := (atomBd d a).2) (asc_nodup i1) (asc_nodup hok.asc) (fun r hr => by obtain ⟨g, rfl, _⟩ := (i3 r).1 hr; simp) (fun r hr => hok.rl r hr) (fun v hv => mem_uniL.1 hv)]
    constructor
    · rintro ⟨g, rfl, h1, h2⟩
      refine ⟨g, rfl, fun b hb => ?_⟩
      rcases List.mem_append.1 hb with hb | hb
      · obtain ⟨g', e', h3⟩ := (i3 _).1 h1
        have := map_at' e'
        rw [List.map_congr_left (g := g') fun v hvm => (this v ((i2 v).2 ⟨b, hb, hvm⟩)).symm]
        exact h3 b hb
      · obtain rfl := List.mem_singleton.1 hb
        obtain ⟨g', e', h3⟩ := (mem_atom hf hv).1 h2
        have := map_at' e'
        rw [List.map_congr_left (g := g') fun v hvm => (this v ((mem_av5 hv).2 hvm)).symm]
        exact h3
    · rintro ⟨g, rfl, hg⟩
      exact ⟨g, rfl, (i3 _).2 ⟨g, rfl, fun b hb => hg b (by simp [hb])⟩, (mem_atom hf hv).2 ⟨g, rfl, hg a (by simp)⟩⟩
theorem foldB_all {d : Dbd} {q : Qd} (h : QOk d q) : (foldB d q.2.1).1 = idV q.1 ∧ sortR (foldB d q.2.1).2 = allB d q := by
  have h5 := h.n5
  obtain ⟨h1, h2, h3⟩ := foldB_iff (d := d) (ats := q.2.1) fun a ha => ⟨h.fit a ha, fun v hv => by have := h.vars a ha v hv; omega⟩
  have e : (foldB d q.2.1).1 = idV q.1 := asc_ext h1 (asc_idV _) fun v => by
    rw [h2, mem_idV]
    constructor
    · rintro ⟨a, ha, hv⟩; exact h.vars a ha v hv
    · rintro ⟨k1, k2⟩; exact h.cov v k1 k2
  refine ⟨e, ?_⟩
  refine ascR_ext (asc_sortR _) (asc_sortR _) fun t => ?_
  rw [mem_sortR, h3, e]
  exact (allB_g h).symm
end Go.Proofs.Ytfigcfajkilhiaa

/- Two rows joined that agree on common variables: the program's way. -/
namespace Go.Proofs.Ytfigcfajkilhiaa
open Go.RowKit

def okG (va r vb s : List Int) (v : Int) : Bool := !(decide (v ∈ va) && decide (v ∈ vb)) || decide (valAt va r v = valAt vb s v)
def gval (va r vb s : List Int) (v : Int) : Int := if v ∈ va then valAt va r v else valAt vb s v
def glueO (un va r vb s : List Int) : Option (List Int) := if un.all (okG va r vb s) = true then some (glueR un va r vb s) else none
theorem okG_agree {un va r vb s : List Int} (h : ∀ v, v ∈ un ↔ v ∈ va ∨ v ∈ vb) : un.all (okG va r vb s) = agreeB va r vb s := by
  rw [Bool.eq_iff_iff, List.all_eq_true, agreeB_iff]
  unfold okG
  simp only [Bool.or_eq_true, Bool.not_eq_true', Bool.and_eq_false_iff, decide_eq_false_iff_not, decide_eq_true_eq]
  constructor
  · intro k v h1 h2
    rcases k v ((h v).2 (.inl h1)) with (k | k) | k
    · exact absurd h1 k
    · exact absurd h2 k
    · exact k
  · intro k v hv
    by_cases h1 : v ∈ va
    · by_cases h2 : v ∈ vb
      · exact .inr (k v h1 h2)
      · exact .inl (.inr h2)
    · exact .inl (.inl h1)
theorem iof_none {v : Int} : ∀ {k : Nat} {va : List Int}, v ∉ va → iof k v va = -1
  | _, [], _ => rfl
  | k, x :: va, h => by
    rw [List.mem_cons, not_or] at h
    rw [iof, if_neg (fun e => h.1 e.symm), iof_none h.2]
theorem iof_at {v : Int} {va r : List Int} (h : v ∈ va) : ∃ p : Nat, p < va.length ∧ iof 0 v va = (p : Int) ∧ valAt va r v = r.getD p 0 := by
  obtain ⟨i, h1, h2⟩ := iof_get (k := 0) h
  rw [Nat.zero_add] at h1
  exact ⟨i, (List.getElem?_eq_some_iff.1 h2).1, h1, by unfold valAt; rw [h1, Int.toNat_natCast]⟩
def GluP (o : Option (List Int)) (w : World) (e : Ending) (w' : World) : Prop := ∃ v F, e = .returned (.tuple #[v, .bool o.isSome]) ∧ (∃ y, w' = ext w y) ∧ SV 3 1 sI w' v (o.getD []) F ∧ ∀ b ∈ F, w.heap.size ≤ b
theorem gl_step {un va r vb s : List Int} {k : Nat} (h : k < un.length) : glueR (un.take (k + 1)) va r vb s = glueR (un.take k) va r vb s ++ [gval va r vb s un[k]] := by
  unfold glueR
  rw [List.take_succ_eq_append_getElem h, List.map_append]; rfl
theorem all_step {p : Int → Bool} {un : List Int} {k : Nat} (h : k < un.length) (h1 : (un.take k).all p = true) (h2 : p un[k] = true) : (un.take (k + 1)).all p = true := by
  rw [List.take_succ_eq_append_getElem h, List.all_append, h1]
  simpa using h2
theorem all_fail {p : Int → Bool} {un : List Int} {k : Nat} (h : k < un.length) (h2 : p un[k] = false) : ¬ un.all p = true := by
  intro h1
  rw [List.all_eq_true] at h1
  rw [h1 _ (List.getElem_mem h)] at h2
  cases h2
set_option maxRecDepth 100000 in
set_option maxHeartbeats 8000000 in
theorem glue_any {A B C D E : Option Addr} {a b c d e : Nat} {un va r vb s : List Int} {w : World} (hn : un.length ≤ 1000000) (hu : RI w A un) (hva : va.length ≤ 1000000) (h1 : RI w B va) (hr : r.length = va.length) (h2 : RI w C r) (hvb : vb.length ≤ 1000000) (h3 : RI w D vb) (hs : s.length = vb.length) (h4 : RI w E s) (hun : ∀ v ∈ un, v ∈ va ∨ v ∈ vb) :
    Calls Try.prog 116 #[.slice A un.length a, .slice B va.length b, .slice C r.length c, .slice D vb.length d, .slice E s.length e] w (GluP (glueO un va r vb s) w) := by
  have Hun := Lib.hid hun
  have hr1 : r.length ≤ va.length := by omega
  have hr2 : va.length ≤ r.length := by omega
  have hs1 : s.length ≤ vb.length := by omega
  have hs2 : vb.length ≤ s.length := by omega
  have hS0 := SV.empty (α := Int) (te := 3) (size := 1) (E := sI) w
  clear hr hs hun
  go_enter Try.func116, Try.ntmps116
  go_wp2
  go_loopw [12, 20] (fun v i wr => ∃ (k : Nat) (F : List Nat), i = .int .i64 k ∧ k ≤ un.length ∧ SV 3 1 sI wr v (glueR (un.take k) va r vb s) F ∧ (∀ b ∈ F, w.heap.size ≤ b) ∧ (∃ y, wr = ext w y) ∧ Hid ((un.take k).all (okG va r vb s) = true)) (fun _ i _ => un.length - (intOf i).toNat)
  case atStart => exact ⟨0, _, rfl, by omega, by simpa [glueR] using hS0, by simp, alloc_ext _ _, Lib.hid (by simp)⟩
  case round =>
    obtain ⟨k, F, rfl, hk, hS, hF, hy, Hok⟩ := hrel
    have HF := Lib.hid hF
    clear hF
    by_cases hlt : k < un.length
    · obtain ⟨bu, ou, rfl, hbu, hcu⟩ := (hu.toExt hy).atI hlt
      have hmem := Hun.out _ (List.getElem_mem hlt)
      have Ht := Lib.hid (gl_step (va := va) (r := r) (vb := vb) (s := s) hlt)
      have HOK := Lib.hid (fun h => all_step hlt Hok.out h)
      have HFA := Lib.hid (fun h => all_fail (p := okG va r vb s) hlt h)
      have hlk : (glueR (un.take k) va r vb s).length + 1 ≤ 2000000000 := by simp [glueR]; omega
      obtain ⟨v, hv⟩ : ∃ v, un[k] = v := ⟨_, rfl⟩
      rw [hv] at hcu hmem Ht HOK HFA
      obtain ⟨i, hi⟩ : ∃ i, iof 0 v va = i := ⟨_, rfl⟩
      obtain ⟨j, hj⟩ : ∃ j, iof 0 v vb = j := ⟨_, rfl⟩
      have HI := Lib.hid hi
      have HJ := Lib.hid hj
      go_upto_region 7 with (first
        | (go_at_call 149; with_reducible refine (indexOf_any (xs := va) (by omega) (h1.toExt ?_)).mono ?_; (focus (exact (by refine Chg.isExt (F := []) ?_ (refl_ext _) (by simp); repeat (with_reducible (first | exact Chg.refl _ _ | exact Nat.le_refl _ | exact Chg.ofExt (by assumption) | refine Chg.trans0 ?_ (by assumption) | refine Chg.extS ?_ _ | refine Chg.alloc ?_ _ | refine Chg.drew ?_ | refine Chg.setCellE ?_ ?_ _ | refine le_addk ?_ _ | refine le_ext ?_ | refine le_alloc ?_ _ | refine le_setC ?_ _ _ | refine le_drew ?_ | assumption | (refine Nat.le_of_lt ?_; omega) | omega))))); rintro e w1 ⟨rfl, hx1⟩; rw [HI.out])
        | (go_at_call 149; with_reducible refine (indexOf_any (xs := vb) (by omega) (h3.toExt ?_)).mono ?_; (focus (exact (by refine Chg.isExt (F := []) ?_ (refl_ext _) (by simp); repeat (with_reducible (first | exact Chg.refl _ _ | exact Nat.le_refl _ | exact Chg.ofExt (by assumption) | refine Chg.trans0 ?_ (by assumption) | refine Chg.extS ?_ _ | refine Chg.alloc ?_ _ | refine Chg.drew ?_ | refine Chg.setCellE ?_ ?_ _ | refine le_addk ?_ _ | refine le_ext ?_ | refine le_alloc ?_ _ | refine le_setC ?_ _ _ | refine le_drew ?_ | assumption | (refine Nat.le_of_lt ?_; omega) | omega))))); rintro e w2 ⟨rfl, hx2⟩; rw [HJ.out]))
      have hy2 : ∃ y, w2 = ext w y := (by refine Chg.isExt (F := []) ?_ (refl_ext _) (by simp); repeat (with_reducible (first | exact Chg.refl _ _ | exact Nat.le_refl _ | exact Chg.ofExt (by assumption) | refine Chg.trans0 ?_ (by assumption) | refine Chg.extS ?_ _ | refine Chg.alloc ?_ _ | refine Chg.drew ?_ | refine Chg.setCellE ?_ ?_ _ | refine le_addk ?_ _ | refine le_ext ?_ | refine le_alloc ?_ _ | refine le_setC ?_ _ _ | refine le_drew ?_ | assumption | (refine Nat.le_of_lt ?_; omega) | omega)))
      have hS2 := (hS.toExt hx1).toExt hx2
      by_cases ma : v ∈ va
      · obtain ⟨p, hp1, hp2, hp3⟩ := iof_at (r := r) ma
        rw [hi] at hp2
        obtain ⟨br, or, rfl, hbr, hcr⟩ := (h2.toExt hy2).atI' (n := p) (by omega)
        have hp4 : (p : Int) < (r.length : Int) := by omega
        by_cases mb : v ∈ vb
        · obtain ⟨q, hq1, hq2, hq3⟩ := iof_at (r := s) mb
          rw [hj] at hq2
          obtain ⟨bs', os', rfl, hbs, hcs⟩ := (h4.toExt hy2).atI' (n := q) (by omega)
          have hq4 : (q : Int) < (s.length : Int) := by omega
          have hgv : gval va r vb s v = r.getD p 0 := by unfold gval; rw [if_pos ma, hp3]
          have hok : okG va r vb s v = decide (r.getD p 0 = s.getD q 0) := by unfold okG; rw [decide_eq_true ma, decide_eq_true mb, hp3, hq3]; rfl
          obtain ⟨x, hx⟩ : ∃ x, r.getD p 0 = x := ⟨_, rfl⟩
          obtain ⟨z, hz⟩ : ∃ z, s.getD q 0 = z := ⟨_, rfl⟩
          rw [hx] at hcr hgv hok
          rw [hz] at hcs hok
          rw [hgv] at Ht
          rw [hok] at HOK HFA
          subst hp2 hq2
          clear hi hj hv hmem hp3 hq3 hx hz hgv hok ma mb
          by_cases hxz : x = z
          · have hne : (x != z) = false := by simpa using hxz
            have HOK := Lib.hid (HOK.out (by simpa using hxz))
            clear hxz
            refine wp_region_ext (by kernel_rfl) (by kernel_rfl) ?_
            repeat (go_big_quiet_step (fail))
            refine wpQuiet_nil ?_
            rintro _ ⟨zz, rfl⟩
            have hy1 : ∃ y, ext w2 zz = ext w y := trans_ext hy2 ⟨zz, rfl⟩
            have hS1 := hS2.toExt (⟨zz, rfl⟩ : ∃ y, ext w2 zz = ext w2 y)
            go_wp2_with (at_builtin; refine wpList_app1 (E := sI) (d := x) rfl _ _ _ rfl tI rfl rfl rfl (by simp) (fun _ => ⟨rfl, rfl⟩) rfl (by simp [Value.oneCell']) hS1 hlk (by omega) ?_; intro v' w' F' hS' hC' hF')
            exact ⟨⟨k + 1, F', by go_num, by omega, by rw [Ht.out]; exact hS', newer HF.out (size_of_ext hy1) hF', hC'.isExt hy1 HF.out, Lib.hid HOK.out⟩, by simp [intOf]; omega⟩
          · have hne : (x != z) = true := by simpa using hxz
            have HZ := Lib.hid (show glueO un va r vb s = none by unfold glueO; rw [if_neg (HFA.out (by simpa using hxz))])
            clear hxz
            refine wp_region_ext (by kernel_rfl) (by kernel_rfl) ?_
            repeat (go_big_quiet_step (fail))
            refine wpQuiet_nil ?_
            rintro _ ⟨zz, rfl⟩
            have hy1 : ∃ y, ext w2 zz = ext w y := trans_ext hy2 ⟨zz, rfl⟩
            have hS1 := hS2.toExt (⟨zz, rfl⟩ : ∃ y, ext w2 zz = ext w2 y)
            go_wp2
            go_ret2
            exact ⟨_, [], by rw [HZ.out]; rfl, hy1, by rw [HZ.out]; exact SV.nil, by simp⟩
        · have hgv : gval va r vb s v = r.getD p 0 := by unfold gval; rw [if_pos ma, hp3]
          have hok : okG va r vb s v = true := by unfold okG; rw [decide_eq_false mb]; simp
          have HOK := Lib.hid (HOK.out hok)
          obtain ⟨x, hx⟩ : ∃ x, r.getD p 0 = x := ⟨_, rfl⟩
          rw [hx] at hcr hgv
          rw [hgv] at Ht
          rw [iof_none mb] at hj
          subst hp2 hj
          clear hi hv hmem hp3 hx hgv hok ma mb
          refine wp_region_ext (by kernel_rfl) (by kernel_rfl) ?_
          repeat (go_big_quiet_step (fail))
          refine wpQuiet_nil ?_
          rintro _ ⟨zz, rfl⟩
          have hy1 : ∃ y, ext w2 zz = ext w y := trans_ext hy2 ⟨zz, rfl⟩
          have hS1 := hS2.toExt (⟨zz, rfl⟩ : ∃ y, ext w2 zz = ext w2 y)
          go_wp2_with (at_builtin; refine wpList_app1 (E := sI) (d := x) rfl _ _ _ rfl tI rfl rfl rfl (by simp) (fun _ => ⟨rfl, rfl⟩) rfl (by simp [Value.oneCell']) hS1 hlk (by omega) ?_; intro v' w' F' hS' hC' hF')
          exact ⟨⟨k + 1, F', by go_num, by omega, by rw [Ht.out]; exact hS', newer HF.out (size_of_ext hy1) hF', hC'.isExt hy1 HF.out, Lib.hid HOK.out⟩, by simp [intOf]; omega⟩
      · have mb : v ∈ vb := by
          rcases hmem with h | h
          · exact absurd h ma
          · exact h
        obtain ⟨q, hq1, hq2, hq3⟩ := iof_at (r := s) mb
        rw [hj] at hq2
        obtain ⟨bs', os', rfl, hbs, hcs⟩ := (h4.toExt hy2).atI' (n := q) (by omega)
        have hq4 : (q : Int) < (s.length : Int) := by omega
        have hgv : gval va r vb s v = s.getD q 0 := by unfold gval; rw [if_neg ma, hq3]
        have hok : okG va r vb s v = true := by unfold okG; rw [decide_eq_false ma]; simp
        have HOK := Lib.hid (HOK.out hok)
        obtain ⟨x, hx⟩ : ∃ x, s.getD q 0 = x := ⟨_, rfl⟩
        rw [hx] at hcs hgv
        rw [hgv] at Ht
        rw [iof_none ma] at hi
        subst hq2 hi
        clear hj hv hmem hq3 hx hgv hok ma mb
        refine wp_region_ext (by kernel_rfl) (by kernel_rfl) ?_
        repeat (go_big_quiet_step (fail))
        refine wpQuiet_nil ?_
        rintro _ ⟨zz, rfl⟩
        have hy1 : ∃ y, ext w2 zz = ext w y := trans_ext hy2 ⟨zz, rfl⟩
        have hS1 := hS2.toExt (⟨zz, rfl⟩ : ∃ y, ext w2 zz = ext w2 y)
        go_wp2_with (at_builtin; refine wpList_app1 (E := sI) (d := x) rfl _ _ _ rfl tI rfl rfl rfl (by simp) (fun _ => ⟨rfl, rfl⟩) rfl (by simp [Value.oneCell']) hS1 hlk (by omega) ?_; intro v' w' F' hS' hC' hF')
        exact ⟨⟨k + 1, F', by go_num, by omega, by rw [Ht.out]; exact hS', newer HF.out (size_of_ext hy1) hF', hC'.isExt hy1 HF.out, Lib.hid HOK.out⟩, by simp [intOf]; omega⟩
    · have HZ := Lib.hid (show glueO un va r vb s = some (glueR un va r vb s) by
        unfold glueO
        rw [if_pos (by have := Hok.out; rwa [List.take_of_length_le (by omega)] at this)])
      rw [show un.take k = un from List.take_of_length_le (by omega)] at hS
      go_wp2
      go_ret2
      exact ⟨_, F, by rw [HZ.out]; rfl, hy, by rw [HZ.out]; exact hS, HF.out⟩
end Go.Proofs.Ytfigcfajkilhiaa

/- The program's semijoin. -/
namespace Go.Proofs.Ytfigcfajkilhiaa
open Go.RowKit

def zVR : VRd := ([], 0, [])
def VROut (o : Option VRd) (w : World) (e : Ending) (w' : World) : Prop := ∃ v0 v1 v2 F, e = .returned (.tuple #[.agg #[v0, v1, v2], .bool o.isSome]) ∧ (∃ y, w' = ext w y) ∧ sVR w' [v0, v1, v2] (o.getD zVR) F ∧ F.Nodup ∧ ∀ b ∈ F, w.heap.size ≤ b
theorem sVR_mk {w : World} {v0 v2 : Value} {va : List Int} {z : Int} {rows : List (List Int)} {F G : List Nat} (h : SV 3 1 sI w v0 va F) (h2 : sII w [v2] rows G) : sVR w [v0, .int .i64 z, v2] (va, z, rows) (F ++ G) := sP_mk (d := (va, z, rows)) ⟨_, rfl, h⟩ (sRel_mk h2)
theorem vrOut_none {w w' : World} {e : Ending} {o : Option VRd} (ho : o = none) (he : e = .returned (.tuple #[.agg #[.slice none 0 0, .int .i64 0, .slice none 0 0], .bool false])) (hx : ∃ y, w' = ext w y) : VROut o w e w' := by
  subst ho
  exact ⟨.slice none 0 0, .int .i64 0, .slice none 0 0, [], he, hx, sVR_mk (F := []) (G := []) SV.nil ⟨_, rfl, SV.nil⟩, by simp, by simp⟩
theorem semi_step {va vb : List Int} {ra rb : List (List Int)} {k : Nat} (h : k < ra.length) : semiL va (ra.take (k + 1)) vb rb = semiL va (ra.take k) vb rb ++ (if (rb.any fun s => agreeB va ra[k] vb s) = true then [ra[k]] else []) := by
  unfold semiL
  rw [List.take_succ_eq_append_getElem h, List.filter_append, List.filter_cons, List.filter_nil]
theorem semiL_len {va vb : List Int} {ra rb : List (List Int)} {k : Nat} : (semiL va (ra.take k) vb rb).length ≤ k := Nat.le_trans (List.length_filter_le _ _) (by simp; omega)
def CutX (va : List Int) (ar : Int) (W : World) (v : Value) (wx : World) : Prop := ∃ b A1 c1 F1, v = .pointer (some ⟨b, 0, none⟩) ∧ BoxAt wx b #[.slice A1 va.length c1, .int .i64 ar, .slice none 0 0] ∧ SV 3 1 sI wx (.slice A1 va.length c1) va F1 ∧ (∀ x ∈ F1, W.heap.size ≤ x ∧ x ≠ b) ∧ W.heap.size ≤ b ∧ ∃ y, wx = ext W y
theorem glueO_some {un va r vb s : List Int} (h : un.all (okG va r vb s) = agreeB va r vb s) : (glueO un va r vb s).isSome = agreeB va r vb s := by
  unfold glueO
  rw [h]
  cases agreeB va r vb s <;> rfl
theorem any_snoc {p : List Int → Bool} {l : List (List Int)} {k : Nat} (h : k < l.length) (h1 : (l.take k).any p = false) (h2 : p l[k] = false) : (l.take (k + 1)).any p = false := by
  rw [List.take_succ_eq_append_getElem h, List.any_append, h1]
  simpa using h2
theorem any_hit {p : List Int → Bool} {l : List (List Int)} {k : Nat} (h : k < l.length) (h2 : p l[k] = true) : l.any p = true := List.any_eq_true.2 ⟨_, List.getElem_mem h, h2⟩
set_option maxRecDepth 100000 in
set_option maxHeartbeats 16000000 in
theorem SemiJoin_any {A B A' B' : Option Addr} {a b a' b' : Nat} {d d' : VRd} {w : World} (hb : BVR d) (h : vVR w [.slice A d.1.length a, .int .i64 d.2.1, .slice B d.2.2.length b] d) (hb' : BVR d') (h' : vVR w [.slice A' d'.1.length a', .int .i64 d'.2.1, .slice B' d'.2.2.length b'] d') :
    Calls Try.prog 41 #[.agg #[.slice A d.1.length a, .int .i64 d.2.1, .slice B d.2.2.length b], .agg #[.slice A' d'.1.length a', .int .i64 d'.2.1, .slice B' d'.2.2.length b']] w (VROut (semiR d d') w) := by
  obtain ⟨r1, r2, _⟩ := vVR_get h
  obtain ⟨s1, s2, _⟩ := vVR_get h'
  have r3 := (vII_get (vRel_get r2).2).2
  have s3 := (vII_get (vRel_get s2).2).2
  have HVa := Lib.hid h
  have HVb := Lib.hid h'
  have Hba := Lib.hid hb
  have Hbb := Lib.hid hb'
  obtain ⟨t1, ht1⟩ : ∃ t, vrB d = t := ⟨_, rfl⟩
  obtain ⟨t2, ht2⟩ : ∃ t, vrB d' = t := ⟨_, rfl⟩
  have HT1 := Lib.hid ht1
  have HT2 := Lib.hid ht2
  clear h h' hb hb' r2 s2 ht1 ht2
  go_enter Try.func41, Try.ntmps41
  go_upto_region 1 with fail
  refine wp_name ?_
  intro W hW
  have xW : ∃ y, W = ext w y := by rw [hW.out]; exact (by refine Chg.isExt (F := []) ?_ (refl_ext _) (by simp); repeat (with_reducible (first | exact Chg.refl _ _ | exact Nat.le_refl _ | exact Chg.ofExt (by assumption) | refine Chg.trans0 ?_ (by assumption) | refine Chg.extS ?_ _ | refine Chg.alloc ?_ _ | refine Chg.drew ?_ | refine Chg.setCellE ?_ ?_ _ | refine le_addk ?_ _ | refine le_ext ?_ | refine le_alloc ?_ _ | refine le_setC ?_ _ _ | refine le_drew ?_ | assumption | (refine Nat.le_of_lt ?_; omega) | omega)))
  have BW0 : BoxAt W (w.heap.size) #[.slice A d.1.length a, .int .i64 d.2.1, .slice B d.2.2.length b] := by rw [hW.out]; refine ⟨?_, fun j => ?_, fun j => ?_⟩ <;> go_simp
  obtain ⟨lW0, bW0, fW0⟩ := BW0
  have cW0_0 : W.cell? ⟨w.heap.size, 0, none⟩ = some (.slice A d.1.length a) := bW0 0
  have cW0_1 : W.cell? ⟨w.heap.size, 1, none⟩ = some (.int .i64 d.2.1) := bW0 1
  have cW0_2 : W.cell? ⟨w.heap.size, 2, none⟩ = some (.slice B d.2.2.length b) := bW0 2
  have BW1 : BoxAt W (w.heap.size + 1) #[.slice A' d'.1.length a', .int .i64 d'.2.1, .slice B' d'.2.2.length b'] := by rw [hW.out]; refine ⟨?_, fun j => ?_, fun j => ?_⟩ <;> go_simp
  obtain ⟨lW1, bW1, fW1⟩ := BW1
  have cW1_0 : W.cell? ⟨w.heap.size + 1, 0, none⟩ = some (.slice A' d'.1.length a') := bW1 0
  have cW1_1 : W.cell? ⟨w.heap.size + 1, 1, none⟩ = some (.int .i64 d'.2.1) := bW1 1
  have cW1_2 : W.cell? ⟨w.heap.size + 1, 2, none⟩ = some (.slice B' d'.2.2.length b') := bW1 2
  have BW2 : BoxAt W (w.heap.size + 1 + 1) #[.slice none 0 0, .int .i64 0, .slice none 0 0] := by rw [hW.out]; refine ⟨?_, fun j => ?_, fun j => ?_⟩ <;> go_simp
  obtain ⟨lW2, bW2, fW2⟩ := BW2
  have cW2_0 : W.cell? ⟨w.heap.size + 1 + 1, 0, none⟩ = some (.slice none 0 0) := bW2 0
  have cW2_1 : W.cell? ⟨w.heap.size + 1 + 1, 1, none⟩ = some (.int .i64 0) := bW2 1
  have cW2_2 : W.cell? ⟨w.heap.size + 1 + 1, 2, none⟩ = some (.slice none 0 0) := bW2 2
  clear hW
  have PW : BoxAt W w.heap.size #[.slice A d.1.length a, .int .i64 d.2.1, .slice B d.2.2.length b] := ⟨lW0, bW0, fW0⟩
  have QW : BoxAt W (w.heap.size + 1) #[.slice A' d'.1.length a', .int .i64 d'.2.1, .slice B' d'.2.2.length b'] := ⟨lW1, bW1, fW1⟩
  have RW : BoxAt W (w.heap.size + 1 + 1) #[.slice none 0 0, .int .i64 0, .slice none 0 0] := ⟨lW2, bW2, fW2⟩
  cases t1 with
  | false =>
    have HZ := Lib.hid (show semiR d d' = none by unfold semiR; rw [HT1.out]; simp)
    go_wp2_with (go_at_call 44; refine (IsValidVarRelation_any Hba.out (VD.toExt HVa.out xW)).mono ?_; rintro e w3 ⟨rfl, hx3⟩; rw [HT1.out]; obtain ⟨l3, a3, a3', a3'', f3⟩ := box3 (RW.toExt hx3))
    refine bodyPost_ret (v := .tuple #[.agg #[.slice none 0 0, .int .i64 0, .slice none 0 0], .bool false]) (by simp [results, Try.results41, go_sem, *]) rfl (vrOut_none HZ.out rfl (by refine Chg.isExt (F := []) ?_ (refl_ext _) (by simp); repeat (with_reducible (first | exact Chg.refl _ _ | exact Nat.le_refl _ | exact Chg.ofExt (by assumption) | refine Chg.trans0 ?_ (by assumption) | refine Chg.extS ?_ _ | refine Chg.alloc ?_ _ | refine Chg.drew ?_ | refine Chg.setCellE ?_ ?_ _ | refine le_addk ?_ _ | refine le_ext ?_ | refine le_alloc ?_ _ | refine le_setC ?_ _ _ | refine le_drew ?_ | assumption | (refine Nat.le_of_lt ?_; omega) | omega))))
  | true =>
    cases t2 with
    | false =>
      have HZ := Lib.hid (show semiR d d' = none by unfold semiR; rw [HT2.out]; simp)
      go_wp2_with (first
        | (go_at_call 44; with_reducible refine (IsValidVarRelation_any Hba.out (VD.toExt HVa.out ?_)).mono ?_; (focus (exact xW)); rintro e w3 ⟨rfl, hx3⟩; rw [HT1.out]; obtain ⟨l3, a3, a3', a3'', f3⟩ := box3 (QW.toExt hx3))
        | (go_at_call 44; with_reducible refine (IsValidVarRelation_any Hbb.out (VD.toExt HVb.out ?_)).mono ?_; (focus (exact (trans_ext xW hx3))); rintro e w4 ⟨rfl, hx4⟩; rw [HT2.out]; obtain ⟨l4, a4, a4', a4'', f4⟩ := box3 (RW.toExt (trans_ext hx3 hx4))))
      refine bodyPost_ret (v := .tuple #[.agg #[.slice none 0 0, .int .i64 0, .slice none 0 0], .bool false]) (by simp [results, Try.results41, go_sem, *]) rfl (vrOut_none HZ.out rfl (by refine Chg.isExt (F := []) ?_ (refl_ext _) (by simp); repeat (with_reducible (first | exact Chg.refl _ _ | exact Nat.le_refl _ | exact Chg.ofExt (by assumption) | refine Chg.trans0 ?_ (by assumption) | refine Chg.extS ?_ _ | refine Chg.alloc ?_ _ | refine Chg.drew ?_ | refine Chg.setCellE ?_ ?_ _ | refine le_addk ?_ _ | refine le_ext ?_ | refine le_alloc ?_ _ | refine le_setC ?_ _ _ | refine le_drew ?_ | assumption | (refine Nat.le_of_lt ?_; omega) | omega))))
    | true =>
      have HA := Lib.hid (vrB_iff.1 HT1.out)
      have HB := Lib.hid (vrB_iff.1 HT2.out)
      go_upto_region 3 with (first
        | (go_at_call 44; with_reducible refine (IsValidVarRelation_any Hba.out (VD.toExt HVa.out ?_)).mono ?_; (focus (exact xW)); rintro e w3 ⟨rfl, hx3⟩; rw [HT1.out]; obtain ⟨l3, a3, a3', a3'', f3⟩ := box3 (QW.toExt hx3))
        | (go_at_call 44; with_reducible refine (IsValidVarRelation_any Hbb.out (VD.toExt HVb.out ?_)).mono ?_; (focus (exact (trans_ext xW hx3))); rintro e w4 ⟨rfl, hx4⟩; rw [HT2.out]))
      have x4 := trans_ext hx3 hx4
      have xw4 := trans_ext xW x4
      have P4 := PW.toExt x4
      have Q4 := QW.toExt x4
      have R4 := RW.toExt x4
      obtain ⟨lp, p0, p1, p2, fp⟩ := box3 P4
      have hva5 : d.1.length ≤ 5 := HA.out.len
      have hvb5 : d'.1.length ≤ 5 := HB.out.len
      clear PW QW RW lW0 bW0 fW0 cW0_0 cW0_1 cW0_2 lW1 bW1 fW1 cW1_0 cW1_1 cW1_2 lW2 bW2 fW2 cW2_0 cW2_1 cW2_2 l3 a3 a3' a3'' f3 xW hx3 hx4
      go_cut [6] (CutX d.1 d.2.1 w4)
      case first =>
        go_region_held3 (fun w' => (∀ a : Addr, a.block < w4.heap.size → w'.cell? a = w4.cell? a) ∧ ∃ y, w' = ext w4 y) (first | exact heldE (by refine Chg.isExt (F := []) ?_ (refl_ext _) (by simp); repeat (with_reducible (first | exact Chg.refl _ _ | exact Nat.le_refl _ | exact Chg.ofExt (by assumption) | refine Chg.trans0 ?_ (by assumption) | refine Chg.extS ?_ _ | refine Chg.alloc ?_ _ | refine Chg.drew ?_ | refine Chg.setCellE ?_ ?_ _ | refine le_addk ?_ _ | refine le_ext ?_ | refine le_alloc ?_ _ | refine le_setC ?_ _ _ | refine le_drew ?_ | assumption | (refine Nat.le_of_lt ?_; omega) | omega)))) ((go_at_call 114; refine (copyInts_v (by omega) (r1.toExt (trans_ext xw4 (by refine Chg.isExt (F := []) ?_ (refl_ext _) (by simp); repeat (with_reducible (first | exact Chg.refl _ _ | exact Nat.le_refl _ | exact Chg.ofExt (by assumption) | refine Chg.trans0 ?_ (by assumption) | refine Chg.extS ?_ _ | refine Chg.alloc ?_ _ | refine Chg.drew ?_ | refine Chg.setCellE ?_ ?_ _ | refine le_addk ?_ _ | refine le_ext ?_ | refine le_alloc ?_ _ | refine le_setC ?_ _ _ | refine le_drew ?_ | assumption | (refine Nat.le_of_lt ?_; omega) | omega)))))).mono ?_; rintro e w5 ⟨v1, F1, rfl, hx5, hS1, hF1⟩; obtain ⟨A1, c1, rfl, _⟩ := hS1.form; try (obtain ⟨l6, b6, b6', b6'', f6⟩ := box3 (BoxAt.toExt (BoxAt.new w4 _ _).drew hx5))))
        all_goals
          go_wp2_with fail
          go_meet
          have hz5 := size_of_ext hx5
          have hlt1 := hS1.lt
          simp only [World.size_alloc, World.drew] at hz5 hF1
          first
            | exact ⟨w5.heap.size, A1, c1, F1, rfl, BoxAt.new _ _ _, hS1.toExt (alloc_ext _ _), fun x hx => ⟨hF1 x hx, by have := hlt1 x hx; omega⟩, size_of_ext (by refine Chg.isExt (F := []) ?_ (refl_ext _) (by simp); repeat (with_reducible (first | exact Chg.refl _ _ | exact Nat.le_refl _ | exact Chg.ofExt (by assumption) | refine Chg.trans0 ?_ (by assumption) | refine Chg.extS ?_ _ | refine Chg.alloc ?_ _ | refine Chg.drew ?_ | refine Chg.setCellE ?_ ?_ _ | refine le_addk ?_ _ | refine le_ext ?_ | refine le_alloc ?_ _ | refine le_setC ?_ _ _ | refine le_drew ?_ | assumption | (refine Nat.le_of_lt ?_; omega) | omega))), (by refine Chg.isExt (F := []) ?_ (refl_ext _) (by simp); repeat (with_reducible (first | exact Chg.refl _ _ | exact Nat.le_refl _ | exact Chg.ofExt (by assumption) | refine Chg.trans0 ?_ (by assumption) | refine Chg.extS ?_ _ | refine Chg.alloc ?_ _ | refine Chg.drew ?_ | refine Chg.setCellE ?_ ?_ _ | refine le_addk ?_ _ | refine le_ext ?_ | refine le_alloc ?_ _ | refine le_setC ?_ _ _ | refine le_drew ?_ | assumption | (refine Nat.le_of_lt ?_; omega) | omega)))⟩
            | exact ⟨w4.heap.size, A1, c1, F1, rfl, (by repeat (with_reducible (first | assumption | exact BoxAt.new _ _ _ | apply BoxAt.set3 | refine BoxAt.set3' ?_ (by omega) | apply BoxAt.set30 | apply BoxAt.set31 | apply BoxAt.set32 | apply BoxAt.set2 | refine BoxAt.set2' ?_ (by omega) | apply BoxAt.setP0 | apply BoxAt.setP1 | refine BoxAt.setO ?_ (by omega) | refine BoxAt.alloc ?_ _ | refine BoxAt.drew ?_ | refine BoxAt.toExt ?_ (by assumption)))), hS1.chg (G := [w4.heap.size]) (by repeat (with_reducible (first | exact Chg.refl _ _ | refine Chg.trans0 ?_ (by assumption) | refine Chg.extS ?_ _ | refine Chg.alloc ?_ _ | refine Chg.drew ?_ | refine Chg.setCell ?_ (.inl (by simp)) _))) (fun x hx hm => by have := hF1 x hx; rw [List.mem_singleton.1 hm] at this; omega), fun x hx => by have := hF1 x hx; omega, Nat.le_refl _, (by refine Chg.isExt (F := []) ?_ (refl_ext _) (by simp); repeat (with_reducible (first | exact Chg.refl _ _ | exact Nat.le_refl _ | exact Chg.ofExt (by assumption) | refine Chg.trans0 ?_ (by assumption) | refine Chg.extS ?_ _ | refine Chg.alloc ?_ _ | refine Chg.drew ?_ | refine Chg.setCellE ?_ ?_ _ | refine le_addk ?_ _ | refine le_ext ?_ | refine le_alloc ?_ _ | refine le_setC ?_ _ _ | refine le_drew ?_ | assumption | (refine Nat.le_of_lt ?_; omega) | omega)))⟩
      obtain ⟨bX, A1, c1, F1, rfl, BX, hSv, hF1, hbX, hxX⟩ := hcut
      obtain ⟨W5, rfl⟩ : ∃ W, W = wc := ⟨_, rfl⟩
      have HF1 := Lib.hid hF1
      clear hF1
      have P5 := P4.toExt hxX
      have Q5 := Q4.toExt hxX
      have R5 := R4.toExt hxX
      have xw5 := trans_ext xw4 hxX
      have hw4s := R4.1
      clear lp p0 p1 p2 fp P4 Q4 R4
      obtain ⟨lp, p0, p1, p2, fp⟩ := box3 P5
      obtain ⟨lq, q0, q1, q2, fq⟩ := box3 Q5
      go_wp2_with fail
      refine (unite_v (by omega) (r1.toExt xw5) (by omega) (s1.toExt xw5)).mono ?_
      rintro e W6 ⟨vu, Fu, rfl, hx6, hSu, hFu⟩
      have HFu := Lib.hid hFu
      clear hFu
      obtain ⟨Au, cu, rfl, _⟩ := hSu.form
      have hun := uniL_length d'.1 d.1
      have Hun := Lib.hid (fun v (hv : v ∈ uniL d.1 d'.1) => mem_uniL.1 hv)
      have Hag := Lib.hid (fun r s => okG_agree (un := uniL d.1 d'.1) (va := d.1) (r := r) (vb := d'.1) (s := s) (fun v => mem_uniL))
      obtain ⟨un, hune⟩ : ∃ u, uniL d.1 d'.1 = u := ⟨_, rfl⟩
      rw [hune] at hSu hun Hun Hag
      have P6 := P5.toExt hx6
      have Q6 := Q5.toExt hx6
      have R6 := R5.toExt hx6
      have X6 := BX.toExt hx6
      have hSv6 := hSv.toExt hx6
      have xw6 := trans_ext xw5 hx6
      have hW56 := size_of_ext hx6
      have hbW5 : bX < W5.heap.size := BX.1
      have hXW : bX < W6.heap.size := X6.1
      have hbXw : w.heap.size + 1 + 1 < bX := by omega
      have hunx : un.length ≤ 10 := by omega
      have HZ := Lib.hid (show semiR d d' = some (d.1, d.2.1, semiL d.1 d.2.2 d'.1 d'.2.2) by unfold semiR; rw [if_pos ⟨HT1.out, HT2.out⟩])
      have hra := HA.out.cnt
      have hrb := HB.out.cnt
      have HAl := Lib.hid HA.out.rl
      have HBl := Lib.hid HB.out.rl
      rw [hune] at *
      clear hune lp p0 p1 p2 fp lq q0 q1 q2 fq P5 Q5 R5 BX hSv HT1 HT2 HVa HVb Hba Hbb HA HB
      have hXX := X6
      obtain ⟨lx6, x60, x61, x62, fx6⟩ := box3 X6
      obtain ⟨lp6, p60, p61, p62, fp6⟩ := box3 P6
      go_wp2_with fail
      go_loopw [40] (fun i wr => ∃ (k : Nat) (A3 : Option Addr) (c3 : Nat) (F : List Nat), i = .int .i64 k ∧ k ≤ d.2.2.length ∧ BoxAt wr bX #[.slice A1 d.1.length c1, .int .i64 d.2.1, .slice A3 (semiL d.1 (d.2.2.take k) d'.1 d'.2.2).length c3] ∧ SV 48 1 sRow wr (.slice A3 (semiL d.1 (d.2.2.take k) d'.1 d'.2.2).length c3) (semiL d.1 (d.2.2.take k) d'.1 d'.2.2) F ∧ Hid F.Nodup ∧ Hid (∀ x ∈ F, W6.heap.size ≤ x) ∧ Chg [bX] W6 wr) (fun i _ => d.2.2.length - (intOf i).toNat)
      case atStart => exact ⟨0, none, 0, [], rfl, by omega, by simpa [semiL] using X6, by simpa [semiL] using SV.nil, Lib.hid (by simp), Lib.hid (by simp), Chg.refl _ _⟩
      case round =>
        obtain ⟨k, A3, c3, F, rfl, hk, hB, hS, HN, HF, hC⟩ := hrel
        clear lx6 x60 x61 x62 fx6 lp6 p60 p61 p62 fp6 hXX
        have hw : ∃ y, wr = ext w y := hC.isExt xw6 (by simp; omega)
        have P7 := P6.chg hC (by simp; omega)
        have Q7 := Q6.chg hC (by simp; omega)
        have R7 := R6.chg hC (by simp; omega)
        by_cases hlt : k < d.2.2.length
        · obtain ⟨br, orr, A4, c4, rfl, hbr, hcr, hvr⟩ := (r3.toExt hw).atV hlt
          have lr := HAl.out _ (List.getElem_mem hlt)
          have Hst := Lib.hid (semi_step (va := d.1) (vb := d'.1) (rb := d'.2.2) hlt)
          have hlk : (semiL d.1 (d.2.2.take k) d'.1 d'.2.2).length + 1 ≤ 2000000000 := by have := semiL_len (va := d.1) (vb := d'.1) (ra := d.2.2) (rb := d'.2.2) (k := k); omega
          obtain ⟨r, hr⟩ : ∃ r, d.2.2[k] = r := ⟨_, rfl⟩
          rw [hr] at hcr hvr lr Hst
          obtain ⟨sl, hsl⟩ : ∃ l, semiL d.1 (d.2.2.take k) d'.1 d'.2.2 = l := ⟨_, rfl⟩
          rw [hsl] at Hst hlk hB hS
          have HLR := Lib.hid lr
          clear hr hsl lr
          obtain ⟨lp7, p70, p71, p72, fp7⟩ := box3 P7
          obtain ⟨lq7, q70, q71, q72, fq7⟩ := box3 Q7
          have HB := Lib.hid hB
          have HS := Lib.hid hS
          have HC := Lib.hid hC
          have HSU := Lib.hid (hSu.chg hC (fun b hb h => by have := HFu.out b hb; rw [List.mem_singleton.1 h] at this; omega))
          have HSlt := Lib.hid hS.lt
          have hCs := hC.size
          have hbXr : bX < wr.heap.size := hB.1
          have hXF : bX ∉ F := fun h => by have := HF.out bX h; omega
          have HP7 := Lib.hid P7
          have HQ7 := Lib.hid Q7
          clear hB hS hC P7 Q7 R7
          obtain ⟨wo, rfl⟩ : ∃ wo : World, wo = wr := ⟨_, rfl⟩
          go_wp2_with fail
          go_loopw [48] (fun j wi => ∃ k2 : Nat, j = .int .i64 k2 ∧ k2 ≤ d'.2.2.length ∧ Hid (((d'.2.2.take k2).any fun s => agreeB d.1 r d'.1 s) = false) ∧ ∃ y, wi = ext wo y) (fun j _ => d'.2.2.length - (intOf j).toNat)
          case atStart => exact ⟨0, rfl, by omega, Lib.hid (by simp), refl_ext wo⟩
          case round =>
            obtain ⟨k2, rfl, hk2, HAN, hyi⟩ := hrel
            have hwi := trans_ext hw hyi
            obtain ⟨lp8, p80, p81, p82, fp8⟩ := box3 (HP7.out.toExt hyi)
            obtain ⟨lq8, q80, q81, q82, fq8⟩ := box3 (HQ7.out.toExt hyi)
            by_cases hlt2 : k2 < d'.2.2.length
            · obtain ⟨bs, os, A5, c5, rfl, hbs, hcs, hvs⟩ := (s3.toExt hwi).atV hlt2
              have ls := HBl.out _ (List.getElem_mem hlt2)
              have HAS := Lib.hid (fun (h : agreeB d.1 r d'.1 d'.2.2[k2] = false) => any_snoc hlt2 HAN.out h)
              have HAY := Lib.hid (fun (h : agreeB d.1 r d'.1 d'.2.2[k2] = true) => any_hit hlt2 h)
              obtain ⟨s, hs⟩ : ∃ s, d'.2.2[k2] = s := ⟨_, rfl⟩
              rw [hs] at hcs hvs ls HAS HAY
              have HLS := Lib.hid ls
              clear ls
              obtain ⟨o, ho⟩ : ∃ o, glueO un d.1 r d'.1 s = o := ⟨_, rfl⟩
              have HG := Lib.hid ho
              have hos : o.isSome = agreeB d.1 r d'.1 s := by rw [← ho]; exact glueO_some (Hag.out r s)
              obtain ⟨t, ht⟩ : ∃ t, agreeB d.1 r d'.1 s = t := ⟨_, rfl⟩
              rw [ht] at hos HAS HAY
              have HOS := Lib.hid hos
              have hruw := (HSU.out.toExt hyi).toView sI_v
              clear hs ho hos ht
              cases t with
              | false =>
                have HAS2 := Lib.hid (HAS.out rfl)
                go_wp2_with (go_at_call 116; refine (glue_any (by omega) hruw (by omega) (r1.toExt hwi) HLR.out (hvr.toExt hyi) (by omega) (s1.toExt hwi) HLS.out hvs Hun.out).mono ?_; rw [HG.out]; rintro e w8 ⟨vg, Fg, rfl, hx8, hSg, hFg⟩; rw [HOS.out])
                exact ⟨⟨k2 + 1, by go_num, by omega, Lib.hid HAS2.out, trans_ext hyi hx8⟩, by simp [intOf]; omega⟩
              | true =>
                have HST := Lib.hid (show semiL d.1 (d.2.2.take (k + 1)) d'.1 d'.2.2 = sl ++ [r] by rw [Hst.out, if_pos (HAY.out rfl)])
                go_upto_region 13 with (go_at_call 116; refine (glue_any (by omega) hruw (by omega) (r1.toExt hwi) HLR.out (hvr.toExt hyi) (by omega) (s1.toExt hwi) HLS.out hvs Hun.out).mono ?_; rw [HG.out]; rintro e w8 ⟨vg, Fg, rfl, hx8, hSg, hFg⟩; rw [HOS.out])
                have B8 := HB.out.toExt (trans_ext hyi hx8)
                obtain ⟨l8, b80, b81, b82, f8⟩ := box3 B8
                have hy8 := trans_ext hyi hx8
                have HS8 := Lib.hid (HS.out.toExt hy8)
                have hbX8 : bX < w8.heap.size := B8.1
                have hz8 := size_of_ext hy8
                have HR := Lib.hid (hvr.toExt hy8)
                have HB8 := Lib.hid B8
                have HFl8 : Hid (∀ b ∈ F, b < w8.drew.heap.size) := Lib.hid (fun b hb => Nat.lt_of_lt_of_le (HSlt.out b hb) (by simpa using hz8))
                have hrl : r.length ≤ 1000000000 := by rw [HLR.out]; omega
                clear hSg hFg B8 hruw lp8 p80 p81 p82 fp8 lq8 q80 q81 q82 fq8
                go_region_law (first
                  | (refine step_appB (E := sRow) (d := r) (G := F9) (cs := #[.slice A9 r.length c9]) (by rfl) _ _ _ (by rfl) tIIr (by rfl) (by rfl) (by exact BoxAt.new _ _ _) ⟨_, rfl, hS9.toExt (alloc_ext _ _)⟩ (by rfl) (by simp [Value.oneCell']) (SA9.toExt (alloc_ext _ _)) hNN (by omega) (by omega) ?_; intro v7 w7 F7 hS7 hC7 hN7 hF7; obtain ⟨A7, c7, rfl, _, _⟩ := hS7.form; have B7 := (B9.alloc (.cells #[.slice A9 r.length c9] 48)).chg hC7 hXF; obtain ⟨l7, k7, k7', k7'', f7⟩ := box3 B7)
                  | (rw [if_pos (by simp [Region.wanted])]; go_wp2_with (go_at_call 114; refine (copyInts_v hrl (HR.out.toExt (by refine Chg.isExt (F := []) ?_ (refl_ext _) (by simp); repeat (with_reducible (first | exact Chg.refl _ _ | exact Nat.le_refl _ | exact Chg.ofExt (by assumption) | refine Chg.trans0 ?_ (by assumption) | refine Chg.extS ?_ _ | refine Chg.alloc ?_ _ | refine Chg.drew ?_ | refine Chg.setCellE ?_ ?_ _ | refine le_addk ?_ _ | refine le_ext ?_ | refine le_alloc ?_ _ | refine le_setC ?_ _ _ | refine le_drew ?_ | assumption | (refine Nat.le_of_lt ?_; omega) | omega))))).mono ?_; rintro e w9 ⟨v9, F9, rfl, hx9, hS9, hF9⟩; obtain ⟨A9, c9, rfl, _, _⟩ := hS9.form; have B9 := HB8.out.drew.toExt hx9; obtain ⟨l9, k9, k9', k9'', f9⟩ := box3 B9; have SA9 := (HS8.out.toExt (drew_ext w8)).toExt hx9; have hz9 := size_of_ext hx9; have hNN := nodup_more HN.out hS9.nodup HFl8.out hF9)))
                all_goals
                  have hCa := (((((HC.out.trans0 hy8).drew).trans0 hx9).alloc (.cells #[.slice A9 r.length c9] 48)).trans hC7 (fun x hx => .inr (HF.out x hx))).setCell (p := ⟨bX, 2, none⟩) (.inl (by simp)) (.slice A7 (sl ++ [r]).length c7)
                  have hF7n : ∀ b ∈ F7, W6.heap.size ≤ b := fun b hb => by
                    rcases hF7 b hb with h | h | h
                    · exact HF.out b h
                    · have := hF9 b h; simp at this hz8; omega
                    · rw [World.size_alloc] at h; simp at hz9 hz8; omega
                  have hSf := hS7.chg ((Chg.refl [bX] w7).setCell (p := ⟨bX, 2, none⟩) (.inl (by simp)) (.slice A7 (sl ++ [r]).length c7)) (fun b hb h => by have := hF7n b hb; rw [List.mem_singleton.1 h] at this; omega)
                  have hBf := B7.set32 (u := .slice A7 (sl ++ [r]).length c7)
                  have hl1 : (sl ++ [r]).length = sl.length + 1 := by simp
                  rw [hl1] at hCa hSf hBf
                  have HL1 := Lib.hid hl1
                  clear hl1
                  have HH := Lib.hid (And.intro hSf (And.intro hBf (And.intro hCa hF7n)))
                  have HN7 := Lib.hid hN7
                  clear hCa hF7n hSf hBf hS7 hC7 hN7 hF7 B7 SA9 hS9 hF9 B9
                  go_wp2
                  exact ⟨⟨k + 1, A7, c7, F7, by go_num, by omega, by rw [HST.out, HL1.out]; exact HH.out.2.1, by rw [HST.out, HL1.out]; exact HH.out.1, Lib.hid HN7.out, Lib.hid HH.out.2.2.2, HH.out.2.2.1⟩, by simp [intOf]; omega⟩
            · have HST := Lib.hid (show semiL d.1 (d.2.2.take (k + 1)) d'.1 d'.2.2 = sl by rw [Hst.out, if_neg (by have := HAN.out; rw [List.take_of_length_le (by omega)] at this; simp [this]), List.append_nil])
              go_wp2
              exact ⟨⟨k + 1, A3, c3, F, by go_num, by omega, by rw [HST.out]; exact HB.out.toExt hyi, by rw [HST.out]; exact HS.out.toExt hyi, HN, HF, HC.out.trans0 hyi⟩, by simp [intOf]; omega⟩
        · obtain rfl : k = d.2.2.length := by omega
          rw [List.take_of_length_le (Nat.le_refl _)] at hB hS
          obtain ⟨sl, hsl⟩ : ∃ l, semiL d.1 d.2.2 d'.1 d'.2.2 = l := ⟨_, rfl⟩
          rw [hsl] at HZ hB hS
          obtain ⟨lr9, r90, r91, r92, fr9⟩ := box3 R7
          obtain ⟨lx9, x90, x91, x92, fx9⟩ := box3 hB
          have hSv9 := hSv6.chg hC (fun b hb h => (HF1.out b hb).2 (by simpa using h))
          have hlt9 := hSv6.lt
          clear hsl
          go_wp2
          refine bodyPost_ret (v := .tuple #[.agg #[.slice A1 d.1.length c1, .int .i64 d.2.1, .slice A3 sl.length c3], .bool true]) (by simp [results, Try.results41, go_sem, *]) rfl ⟨_, _, _, F1 ++ F, by rw [HZ.out]; rfl, (by refine Chg.isExt (F := []) ?_ (refl_ext _) (by simp); repeat (with_reducible (first | exact Chg.refl _ _ | exact Nat.le_refl _ | exact Chg.ofExt (by assumption) | refine Chg.trans0 ?_ (by assumption) | refine Chg.extS ?_ _ | refine Chg.alloc ?_ _ | refine Chg.drew ?_ | refine Chg.setCellE ?_ ?_ _ | refine le_addk ?_ _ | refine le_ext ?_ | refine le_alloc ?_ _ | refine le_setC ?_ _ _ | refine le_drew ?_ | assumption | (refine Nat.le_of_lt ?_; omega) | omega))), ?_, ?_, fun b hb => ?_⟩
          · rw [HZ.out]
            refine sVR_mk (hSv9.chg (G := [w.heap.size + 1 + 1]) (by repeat (with_reducible (first | exact Chg.refl _ _ | refine Chg.trans0 ?_ (by assumption) | refine Chg.extS ?_ _ | refine Chg.alloc ?_ _ | refine Chg.drew ?_ | refine Chg.setCell ?_ (.inl (by simp)) _))) ?_) (OD.chg (E := sII) (G := [w.heap.size + 1 + 1]) ⟨_, rfl, hS⟩ (by repeat (with_reducible (first | exact Chg.refl _ _ | refine Chg.trans0 ?_ (by assumption) | refine Chg.extS ?_ _ | refine Chg.alloc ?_ _ | refine Chg.drew ?_ | refine Chg.setCell ?_ (.inl (by simp)) _))) ?_)
            · intro b hb h
              have := (HF1.out b hb).1
              rw [List.mem_singleton.1 h] at this
              omega
            · intro b hb h
              have := HF.out b hb
              rw [List.mem_singleton.1 h] at this
              omega
          · exact nodup_more (n := W6.heap.size) hSv6.nodup HN.out hlt9 HF.out
          · have := size_of_ext xw4
            rcases List.mem_append.1 hb with h | h
            · have := (HF1.out b h).1; omega
            · have := HF.out b h; omega
end Go.Proofs.Ytfigcfajkilhiaa

/- The reference's draws of labeled relations. -/
namespace Go.Proofs.Ytfigcfajkilhiaa
open Go.RowKit
structure BagD (d : VRd) : Prop where
  b : BVR d
  n : d.2.2.length ≤ 7
def BagP (w0 : World) (g : Nat) (w : World) (e : Ending) (w' : World) : Prop := ∃ v0 v1 v2 F d, e = .returned (.agg #[v0, v1, v2]) ∧ sVR w' [v0, v1, v2] d F ∧ F.Nodup ∧ (∀ b ∈ F, w.heap.size ≤ b) ∧ BagD d ∧ Cur w0 w' g ∧ Chg [g] w w'
set_option maxRecDepth 100000 in
set_option maxHeartbeats 8000000 in
theorem l11Bag_any {g : Nat} {w0 w : World} (hc : Cur w0 w g) : Calls Try.prog 113 #[.pointer (some ⟨g, 0, none⟩)] w (BagP w0 g w) := by
  have hgw := hc.lt
  have hw0w := size_of_ext hc.2.1
  have Hc0 := Lib.hid hc
  clear hc
  go_enter Try.func113, Try.ntmps113
  go_upto_region 1 with fail
  refine wp_name ?_
  intro W hW
  have xW : ∃ y, W = ext w y := by rw [hW.out]; exact (by refine Chg.isExt (F := []) ?_ (refl_ext _) (by simp); repeat (with_reducible (first | exact Chg.refl _ _ | exact Nat.le_refl _ | exact Chg.ofExt (by assumption) | refine Chg.trans0 ?_ (by assumption) | refine Chg.extS ?_ _ | refine Chg.alloc ?_ _ | refine Chg.drew ?_ | refine Chg.setCellE ?_ ?_ _ | refine le_addk ?_ _ | refine le_ext ?_ | refine le_alloc ?_ _ | refine le_setC ?_ _ _ | refine le_drew ?_ | assumption | (refine Nat.le_of_lt ?_; omega) | omega)))
  have BW0 : BoxAt W (w.heap.size) #[.slice none 0 0, .int .i64 0, .slice none 0 0] := by rw [hW.out]; refine ⟨?_, fun j => ?_, fun j => ?_⟩ <;> go_simp
  obtain ⟨lW0, bW0, fW0⟩ := BW0
  have cW0_0 : W.cell? ⟨w.heap.size, 0, none⟩ = some (.slice none 0 0) := bW0 0
  have cW0_1 : W.cell? ⟨w.heap.size, 1, none⟩ = some (.int .i64 0) := bW0 1
  have cW0_2 : W.cell? ⟨w.heap.size, 2, none⟩ = some (.slice none 0 0) := bW0 2
  clear hW
  have HB := Lib.hid (show BoxAt W w.heap.size #[.slice none 0 0, .int .i64 0, .slice none 0 0] from ⟨lW0, bW0, fW0⟩)
  clear bW0 fW0 cW0_0 cW0_1 cW0_2
  go_upto_region 2 with fail
  refine wp_name ?_
  intro W2 hW2
  have x2 : ∃ y, W2 = ext W y := by rw [hW2.out]; exact (by refine Chg.isExt (F := []) ?_ (refl_ext _) (by simp); repeat (with_reducible (first | exact Chg.refl _ _ | exact Nat.le_refl _ | exact Chg.ofExt (by assumption) | refine Chg.trans0 ?_ (by assumption) | refine Chg.extS ?_ _ | refine Chg.alloc ?_ _ | refine Chg.drew ?_ | refine Chg.setCellE ?_ ?_ _ | refine le_addk ?_ _ | refine le_ext ?_ | refine le_alloc ?_ _ | refine le_setC ?_ _ _ | refine le_drew ?_ | assumption | (refine Nat.le_of_lt ?_; omega) | omega)))
  have B2 : BoxAt W2 W.heap.size #[.slice none 0 0, .int .i64 0, .slice none 0 0] := by rw [hW2.out]; exact (by repeat (with_reducible (first | assumption | exact BoxAt.new _ _ _ | apply BoxAt.set3 | refine BoxAt.set3' ?_ (by omega) | apply BoxAt.set30 | apply BoxAt.set31 | apply BoxAt.set32 | apply BoxAt.set2 | refine BoxAt.set2' ?_ (by omega) | apply BoxAt.setP0 | apply BoxAt.setP1 | refine BoxAt.setO ?_ (by omega) | refine BoxAt.alloc ?_ _ | refine BoxAt.drew ?_ | refine BoxAt.toExt ?_ (by assumption))))
  have hzW := size_of_ext xW
  obtain ⟨b3, q3⟩ : ∃ b, W.heap.size = b := ⟨_, rfl⟩
  rw [q3] at B2 lW0 hzW ⊢
  have h32 : b3 < W2.heap.size := B2.1
  have HB2 := Lib.hid B2
  have HR2 := Lib.hid (HB.out.toExt x2)
  have HC2 := Lib.hid (Chg.ofExt (F := [g]) (trans_ext xW x2))
  have Hc2 := Lib.hid (Hc0.out.toExt (trans_ext xW x2))
  clear hW2 q3 B2
  go_wp2_with fail
  go_loopw [4] (fun i wr => ∃ (k : Nat) (vs : List Int) (A : Option Addr) (c : Nat) (F : List Nat), i = .int .i64 k ∧ k ≤ 4 ∧ BoxAt wr b3 #[.slice A vs.length c, .int .i64 0, .slice none 0 0] ∧ SV 3 1 sI wr (.slice A vs.length c) vs F ∧ (∀ b ∈ F, W2.heap.size ≤ b) ∧ vs.length ≤ k ∧ Cur w0 wr g ∧ Chg [g] w wr ∧ BoxAt wr w.heap.size #[.slice none 0 0, .int .i64 0, .slice none 0 0] ∧ W2.heap.size ≤ wr.heap.size) (fun i _ => 4 - (intOf i).toNat)
  case atStart => exact ⟨0, [], none, 0, [], rfl, by omega, HB2.out, SV.nil, by simp, by simp, Hc2.out, HC2.out, HR2.out, by omega⟩
  case round =>
    obtain ⟨k, vs, A, c, F, rfl, hk, hB, hS, hF, hl, hcr, hC, hR, hzr⟩ := hrel
    have HB3 := Lib.hid hB
    have HS := Lib.hid hS
    have HF := Lib.hid hF
    have Hcr := Lib.hid hcr
    have HC := Lib.hid hC
    have HR := Lib.hid hR
    have n3g : b3 ≠ g := by omega
    have n3F : Hid (b3 ∉ F) := Lib.hid (fun h => by have := hF _ h; omega)
    have ngF : Hid (∀ b ∈ F, b ∉ [g]) := Lib.hid (fun b hb h => by have := hF b hb; rw [List.mem_singleton.1 h] at this; omega)
    clear hB hS hF hcr hC hR
    by_cases hlt : k < 4
    · go_wp2_with fail
      refine (l1Once_any Hcr.out (by omega) (by omega)).mono ?_
      rintro e w1 ⟨t, rfl, hc1, hC1⟩
      have S1 := HS.out.chg hC1 ngF.out
      have B1 := HB3.out.chg hC1 (by simpa using n3g)
      have R1 := HR.out.chg hC1 (by simp; omega)
      have C1 := HC.out.trans hC1 (fun x hx => .inl hx)
      have hz1 := hC1.size
      cases t with
      | false =>
        go_wp2
        exact ⟨⟨k + 1, vs, A, c, F, by go_num, by omega, B1, S1, HF.out, by omega, hc1, C1, R1, by omega⟩, by simp [intOf]; omega⟩
      | true =>
        obtain ⟨l1, k1, k1', k1'', f1⟩ := box3 B1
        have HC1 := Lib.hid C1
        have Hc1 := Lib.hid hc1
        have HR1 := Lib.hid R1
        clear hc1 hC1 C1 R1
        go_wp2_with (at_builtin; refine wpList_app1 (E := sI) (d := (k : Int)) rfl _ _ _ rfl tI rfl rfl rfl (by simp) (fun _ => ⟨rfl, rfl⟩) rfl (by simp [Value.oneCell']) S1 (by omega) (by omega) ?_; intro v6 w6 F6 hS6 hC6 hF6; obtain ⟨A6, c6, rfl, _, _⟩ := hS6.form; have B6 := B1.chg hC6 n3F.out; obtain ⟨l6, k6, k6', k6'', f6⟩ := box3 B6)
        have hz6 := hC6.size
        have hF6n : ∀ b ∈ F6, W2.heap.size ≤ b := fun b hb => by
          rcases hF6 b hb with h | h
          · exact HF.out b h
          · omega
        have hsC := (Chg.refl [b3] w6).setCell (p := ⟨b3, 0, none⟩) (.inl (by simp)) (.slice A6 (vs ++ [(k : Int)]).length c6)
        rw [show vs.length + 1 = (vs ++ [(k : Int)]).length by simp]
        exact ⟨⟨k + 1, vs ++ [(k : Int)], A6, c6, F6, by go_num, by omega, B6.set30, hS6.chg hsC (fun b hb h => by have := hF6n b hb; rw [List.mem_singleton.1 h] at this; omega), hF6n, by simp; omega, (Hc1.out.chg hC6 (fun h => ngF.out g h (by simp)) (fun b hb => by have := HF.out b hb; omega)).chg hsC (by simp; omega) (by simp; omega), (HC1.out.trans hC6 (fun x hx => .inr (by have := HF.out x hx; omega))).trans hsC (fun x hx => .inr (by rw [List.mem_singleton.1 hx]; omega)), (HR1.out.chg hC6 (fun h => by have := HF.out _ h; omega)).chg hsC (by simp; omega), by rw [World.size_setCell]; omega⟩, by simp [intOf]; omega⟩
    · obtain ⟨l4, k4, k4', k4'', f4⟩ := box3 HB3.out
      have hvl : vs.length ≤ 4 := by omega
      go_wp2_with fail
      refine (l5Rel_63 (a := vs.length) Hcr.out (by omega)).mono ?_
      rintro e w5 ⟨v0, v1, G, r, rfl, hS5, hN5, hF5, hD5, hc5, hC5⟩
      obtain ⟨AR, cR, rfl, rfl, hI5⟩ := sRel_form hS5
      obtain ⟨ra, rows⟩ := r
      have har := hD5.ar
      have hrn := hD5.n
      have HRL := Lib.hid (show ∀ x ∈ rows, x.length ≤ 10 from fun x hx => by have := (rowsB_sz hD5.ok).rl x hx; omega)
      dsimp only at har hrn
      subst har
      obtain ⟨v1', ev1, S5⟩ := hI5
      injection ev1 with ev1
      subst ev1
      dsimp only at S5 ⊢
      have B5 := HB3.out.chg hC5 (by simpa using n3g)
      have V5 := HS.out.chg hC5 ngF.out
      have R5 := HR.out.chg hC5 (by simp; omega)
      have C5 := HC.out.trans hC5 (fun x hx => .inl hx)
      have hz5 := hC5.size
      have hGn : ∀ b ∈ G, W2.heap.size ≤ b := fun b hb => by have := hF5 b hb; omega
      have hNN := nodup_more HS.out.nodup hN5 HS.out.lt hF5
      have hsC := ((Chg.refl [b3] w5).setCell (p := ⟨b3, 1, none⟩) (.inl (by simp)) (.int .i64 (vs.length : Int))).setCell (p := ⟨b3, 2, none⟩) (.inl (by simp)) (.slice AR rows.length cR)
      have HB6 := Lib.hid ((B5.set31 (u := .int .i64 (vs.length : Int))).set32 (u := .slice AR rows.length cR))
      have HV6 := Lib.hid (V5.chg hsC (fun b hb h => by have := HF.out b hb; rw [List.mem_singleton.1 h] at this; omega))
      have HS6 := Lib.hid (S5.chg hsC (fun b hb h => by have := hGn b hb; rw [List.mem_singleton.1 h] at this; omega))
      have HR6 := Lib.hid (R5.chg hsC (by simp; omega))
      have HC6 := Lib.hid (C5.trans hsC (fun x hx => .inr (by rw [List.mem_singleton.1 hx]; omega)))
      have Hc6 := Lib.hid (hc5.chg hsC (by simp; omega) (by simp; omega))
      have HGn := Lib.hid hGn
      have HNN := Lib.hid hNN
      obtain ⟨l5, k5, k5', k5'', f5⟩ := box3 B5
      clear hS5 hN5 hF5 hD5 hc5 hC5 S5 V5 R5 C5 hGn hNN hsC B5
      go_upto_region 8 with fail
      refine wp_name ?_
      intro W6 hW6
      rw [← hW6.out] at HB6 HV6 HS6 HR6 HC6 Hc6
      have hz6 : w5.heap.size ≤ W6.heap.size := by rw [hW6.out]; simp
      clear hW6 l4 k4 k4' k4'' f4 l5 k5 k5' k5'' f5
      go_wp2_with fail
      refine (l1Below_any Hc6.out (by omega) (by omega)).mono ?_
      rintro e w7 ⟨x, rfl, hx0, hx1, hc7, hC7⟩
      have HB7 := Lib.hid (HB6.out.chg hC7 (by simpa using n3g))
      have HV7 := Lib.hid (HV6.out.chg hC7 ngF.out)
      have HS7 := Lib.hid (HS6.out.chg hC7 (fun b hb h => by have := HGn.out b hb; rw [List.mem_singleton.1 h] at this; omega))
      have HR7 := Lib.hid (HR6.out.chg hC7 (by simp; omega))
      have HC7 := Lib.hid (HC6.out.trans hC7 (fun x hx => .inl hx))
      have Hc7 := Lib.hid hc7
      have hz7 := hC7.size
      clear hc7 hC7
      by_cases e0 : x = 0
      · have q0 : (x == 0) = true := by simp [e0]
        have q1 : (x == 1) = false := by simp [e0]
        obtain ⟨l7, k7, k7', k7'', f7⟩ := box3 HB7.out
        clear e0
        go_upto_region 13 with (at_builtin; refine wpList_app1 (E := sI) (d := (0 : Int)) rfl _ _ _ rfl tI rfl rfl rfl (by simp) (fun _ => ⟨rfl, rfl⟩) rfl (by simp [Value.oneCell']) HV7.out (by omega) (by omega) ?_; intro v8 w8 F8 hS8 hC8 hF8; obtain ⟨A8, c8, rfl, _, _⟩ := hS8.form; have B8 := HB7.out.chg hC8 n3F.out; obtain ⟨l8, k8, k8', k8'', f8⟩ := box3 B8)
        have hl8 : (vs ++ [(0 : Int)]).length = vs.length + 1 := by simp
        rw [hl8] at hS8
        have hz8 := hC8.size
        have hF8n : ∀ b ∈ F8, W2.heap.size ≤ b := fun b hb => by
          rcases hF8 b hb with h | h
          · exact HF.out b h
          · omega
        have hsC := (Chg.refl [b3] w8).setCell (p := ⟨b3, 0, none⟩) (.inl (by simp)) (.slice A8 (vs.length + 1) c8)
        have HB9 := Lib.hid (B8.set30 (u := .slice A8 (vs.length + 1) c8))
        have HV9 := Lib.hid (hS8.chg hsC (fun b hb h => by have := hF8n b hb; rw [List.mem_singleton.1 h] at this; omega))
        have HS9 := Lib.hid ((HS7.out.chg hC8 (fun b hb h => (List.nodup_append.1 HNN.out).2.2 b h b hb rfl)).chg hsC (fun b hb h => by have := HGn.out b hb; rw [List.mem_singleton.1 h] at this; omega))
        have HR9 := Lib.hid ((HR7.out.chg hC8 (fun h => by have := HF.out _ h; omega)).chg hsC (by simp; omega))
        have HC9 := Lib.hid ((HC7.out.trans hC8 (fun x hx => .inr (by have := HF.out x hx; omega))).trans hsC (fun x hx => .inr (by rw [List.mem_singleton.1 hx]; omega)))
        have Hc9 := Lib.hid ((Hc7.out.chg hC8 (fun h => ngF.out g h (by simp)) (fun b hb => by have := HF.out b hb; omega)).chg hsC (by simp; omega) (by simp; omega))
        have HFV9 := Lib.hid hF8n
        have HFR9 := HGn
        have HN9 : Hid (F8 ++ G).Nodup := Lib.hid (List.nodup_append.2 ⟨hS8.nodup, (List.nodup_append.1 HNN.out).2.1, fun a ha b hb e => by
          rcases hF8 a ha with h | h
          · exact (List.nodup_append.1 HNN.out).2.2 a h b hb e
          · have := HS7.out.lt b hb; omega⟩)
        have HA9 : Hid (BagD (vs ++ [(0 : Int)], (vs.length : Int), rows)) := Lib.hid ⟨⟨by simp; omega, anyR_b ⟨⟨by dsimp only; omega, by dsimp only; omega⟩, by dsimp only; omega, HRL.out⟩⟩, by dsimp only; omega⟩
        refine wp_name ?_
        intro WX hWX
        rw [← hWX.out] at HB9 HV9 HS9 HR9 HC9 Hc9
        clear hWX hS8 hC8 hF8 hF8n hsC B8 l7 k7 k7' k7'' f7 l8 k8 k8' k8'' f8 hl8
        obtain ⟨lf1, kf10, kf11, kf12, ff1⟩ := box3 HB9.out
        obtain ⟨lf2, kf20, kf21, kf22, ff2⟩ := box3 HR9.out
        go_wp2_with fail
        refine bodyPost_ret (v := .agg #[.slice A8 (vs.length + 1) c8, .int .i64 ((vs.length : Int)), .slice AR rows.length cR]) (by simp [results, Try.results113, go_sem, *]) rfl ?_
        show BagP w0 g w _ _
        have hC9 := ((((Chg.refl [w.heap.size] WX).setCell (p := ⟨w.heap.size, 0, none⟩) (.inl (by simp)) (.slice A8 (vs.length + 1) c8)).setCell (p := ⟨w.heap.size, 1, none⟩) (.inl (by simp)) (.int .i64 ((vs.length : Int)))).setCell (p := ⟨w.heap.size, 2, none⟩) (.inl (by simp)) (.slice AR rows.length cR))
        exact ⟨_, _, _, F8 ++ G, ((vs ++ [(0 : Int)]), (vs.length : Int), rows), rfl, OD.chg (sVR_mk HV9.out ⟨_, rfl, HS9.out⟩) hC9 (fun b hb h => by
          rw [List.mem_singleton.1 h] at hb
          rcases List.mem_append.1 hb with h | h
          · have := HFV9.out _ h; omega
          · have := HFR9.out _ h; omega), HN9.out, fun b hb => by
          rcases List.mem_append.1 hb with h | h
          · have := HFV9.out _ h; omega
          · have := HFR9.out _ h; omega, HA9.out, Hc9.out.chg hC9 (by simp; omega) (by simp; omega), HC9.out.trans hC9 (fun x hx => .inr (by rw [List.mem_singleton.1 hx]; omega))⟩
      · have q0 : (x == 0) = false := by simp [e0]
        by_cases e1 : x = 1
        · have q1 : (x == 1) = true := by simp [e1]
          obtain ⟨l7, k7, k7', k7'', f7⟩ := box3 HB7.out
          clear e0 e1
          go_wp2_with fail
          refine (l5Any_any Hc7.out).mono ?_
          rintro e w8 ⟨u0, u1, G8, r8, rfl, hS8, hN8, hF8, hA8, hc8, hC8⟩
          obtain ⟨A8, c8, rfl, rfl, hI8⟩ := sRel_form hS8
          obtain ⟨r8a, r8b⟩ := r8
          obtain ⟨v8', ev8, S8⟩ := hI8
          injection ev8 with ev8
          subst ev8
          dsimp only at S8 ⊢
          have B8 := HB7.out.chg hC8 (by simpa using n3g)
          have hz8 := hC8.size
          have hGn8 : ∀ b ∈ G8, W2.heap.size ≤ b := fun b hb => by have := hF8 b hb; omega
          have hsC := ((Chg.refl [b3] w8).setCell (p := ⟨b3, 1, none⟩) (.inl (by simp)) (.int .i64 r8a)).setCell (p := ⟨b3, 2, none⟩) (.inl (by simp)) (.slice A8 r8b.length c8)
          have HB9 := Lib.hid ((B8.set31 (u := .int .i64 r8a)).set32 (u := .slice A8 r8b.length c8))
          have HV9 := Lib.hid ((HV7.out.chg hC8 ngF.out).chg hsC (fun b hb h => by have := HF.out b hb; rw [List.mem_singleton.1 h] at this; omega))
          have HS9 := Lib.hid (S8.chg hsC (fun b hb h => by have := hGn8 b hb; rw [List.mem_singleton.1 h] at this; omega))
          have HR9 := Lib.hid ((HR7.out.chg hC8 (by simp; omega)).chg hsC (by simp; omega))
          have HC9 := Lib.hid ((HC7.out.trans hC8 (fun x hx => .inl hx)).trans hsC (fun x hx => .inr (by rw [List.mem_singleton.1 hx]; omega)))
          have Hc9 := Lib.hid (hc8.chg hsC (by simp; omega) (by simp; omega))
          have HFV9 := HF
          have HFR9 := Lib.hid hGn8
          have HN9 : Hid (F ++ G8).Nodup := Lib.hid (nodup_more HV7.out.nodup hN8 HV7.out.lt hF8)
          have HA9 : Hid (BagD (vs, r8a, r8b)) := Lib.hid ⟨⟨by dsimp only; omega, anyR_b hA8⟩, hA8.n⟩
          obtain ⟨l8, k8, k8', k8'', f8⟩ := box3 B8
          clear hS8 hN8 hF8 hA8 hc8 hC8 S8 hGn8 hsC B8
          go_upto_region 13 with fail
          refine wp_name ?_
          intro WX hWX
          rw [← hWX.out] at HB9 HV9 HS9 HR9 HC9 Hc9
          clear hWX l7 k7 k7' k7'' f7 l8 k8 k8' k8'' f8
          obtain ⟨lf1, kf10, kf11, kf12, ff1⟩ := box3 HB9.out
          obtain ⟨lf2, kf20, kf21, kf22, ff2⟩ := box3 HR9.out
          go_wp2_with fail
          refine bodyPost_ret (v := .agg #[.slice A vs.length c, .int .i64 (r8a), .slice A8 r8b.length c8]) (by simp [results, Try.results113, go_sem, *]) rfl ?_
          show BagP w0 g w _ _
          have hC9 := ((((Chg.refl [w.heap.size] WX).setCell (p := ⟨w.heap.size, 0, none⟩) (.inl (by simp)) (.slice A vs.length c)).setCell (p := ⟨w.heap.size, 1, none⟩) (.inl (by simp)) (.int .i64 (r8a))).setCell (p := ⟨w.heap.size, 2, none⟩) (.inl (by simp)) (.slice A8 r8b.length c8))
          exact ⟨_, _, _, F ++ G8, (vs, r8a, r8b), rfl, OD.chg (sVR_mk HV9.out ⟨_, rfl, HS9.out⟩) hC9 (fun b hb h => by
            rw [List.mem_singleton.1 h] at hb
            rcases List.mem_append.1 hb with h | h
            · have := HFV9.out _ h; omega
            · have := HFR9.out _ h; omega), HN9.out, fun b hb => by
            rcases List.mem_append.1 hb with h | h
            · have := HFV9.out _ h; omega
            · have := HFR9.out _ h; omega, HA9.out, Hc9.out.chg hC9 (by simp; omega) (by simp; omega), HC9.out.trans hC9 (fun x hx => .inr (by rw [List.mem_singleton.1 hx]; omega))⟩
        · have q1 : (x == 1) = false := by simp [e1]
          clear e0 e1
          go_upto_region 13 with fail
          have HB9 := HB7
          have HV9 := HV7
          have HS9 := HS7
          have HR9 := HR7
          have HC9 := HC7
          have Hc9 := Hc7
          have HFV9 := HF
          have HFR9 := HGn
          have HN9 := HNN
          have HA9 : Hid (BagD (vs, (vs.length : Int), rows)) := Lib.hid ⟨⟨by dsimp only; omega, anyR_b ⟨⟨by dsimp only; omega, by dsimp only; omega⟩, by dsimp only; omega, HRL.out⟩⟩, by dsimp only; omega⟩
          obtain ⟨lf1, kf10, kf11, kf12, ff1⟩ := box3 HB9.out
          obtain ⟨lf2, kf20, kf21, kf22, ff2⟩ := box3 HR9.out
          go_wp2_with fail
          refine bodyPost_ret (v := .agg #[.slice A vs.length c, .int .i64 ((vs.length : Int)), .slice AR rows.length cR]) (by simp [results, Try.results113, go_sem, *]) rfl ?_
          show BagP w0 g w _ _
          have hC9 := ((((Chg.refl [w.heap.size] w7).setCell (p := ⟨w.heap.size, 0, none⟩) (.inl (by simp)) (.slice A vs.length c)).setCell (p := ⟨w.heap.size, 1, none⟩) (.inl (by simp)) (.int .i64 ((vs.length : Int)))).setCell (p := ⟨w.heap.size, 2, none⟩) (.inl (by simp)) (.slice AR rows.length cR))
          exact ⟨_, _, _, F ++ G, (vs, (vs.length : Int), rows), rfl, OD.chg (sVR_mk HV9.out ⟨_, rfl, HS9.out⟩) hC9 (fun b hb h => by
            rw [List.mem_singleton.1 h] at hb
            rcases List.mem_append.1 hb with h | h
            · have := HFV9.out _ h; omega
            · have := HFR9.out _ h; omega), HN9.out, fun b hb => by
            rcases List.mem_append.1 hb with h | h
            · have := HFV9.out _ h; omega
            · have := HFR9.out _ h; omega, HA9.out, Hc9.out.chg hC9 (by simp; omega) (by simp; omega), HC9.out.trans hC9 (fun x hx => .inr (by rw [List.mem_singleton.1 hx]; omega))⟩
end Go.Proofs.Ytfigcfajkilhiaa

/- The reference's draws of two labeled relations for the joins. -/
namespace Go.Proofs.Ytfigcfajkilhiaa
open Go.RowKit
def TwoBP (w : World) (e : Ending) (w' : World) : Prop := ∃ v0 v1 v2 u0 u1 u2 F G d1 d2, e = .returned (.tuple #[.agg #[v0, v1, v2], .agg #[u0, u1, u2]]) ∧ sVR w' [v0, v1, v2] d1 F ∧ sVR w' [u0, u1, u2] d2 G ∧ BagD d1 ∧ BagD d2 ∧ (∀ b ∈ F, w.heap.size ≤ b) ∧ (∀ b ∈ G, w.heap.size ≤ b) ∧ ∃ y, w' = ext w y
set_option maxRecDepth 100000 in
set_option maxHeartbeats 8000000 in
theorem DrawSemiJoin_any {A : Option Addr} {c : Nat} {bs : List UInt8} {w : World} (hx : bs.length ≤ 1048576) (h1 : RU w A bs) :
    Calls Try.prog 40 #[.slice A bs.length c] w (TwoBP w) := by
  go_enter Try.func40, Try.ntmps40
  go_upto_region 1 with fail
  refine wp_name ?_
  intro W hW
  have xW : ∃ y, W = ext w y := by rw [hW.out]; exact trans_ext (alloc_ext _ _) (alloc_ext _ _)
  have B2 : BoxAt W w.heap.size #[.slice none 0 0, .int .i64 0, .slice none 0 0] := by rw [hW.out]; exact (BoxAt.new _ _ _).toExt (alloc_ext _ _)
  have B3 : BoxAt W (w.heap.size + 1) #[.slice none 0 0, .int .i64 0, .slice none 0 0] := by
    rw [hW.out]
    have h := BoxAt.new (w.alloc (.cells #[.slice none 0 0, .int .i64 0, .slice none 0 0] 65)) #[.slice none 0 0, .int .i64 0, .slice none 0 0] 65
    rw [World.size_alloc] at h
    exact h
  have hB2 := Lib.hid B2
  have hB3 := Lib.hid B3
  have hzW := B3.1
  clear hW B2 B3
  go_wp2_with fail
  refine (l1New_any hx (h1.toExt xW)).mono ?_
  rintro e w1 ⟨g, rfl, hc1⟩
  have hg1 := hc1.1
  have hgl := hc1.lt
  have hHB2 := Lib.hid (hB2.out.toExt hc1.2.1)
  have hHB3 := Lib.hid (hB3.out.toExt hc1.2.1)
  clear hB2 hB3
  go_wp2_with fail
  refine (l11Bag_any hc1).mono ?_
  rintro e w2 ⟨v0, v1, v2, F, d1, rfl, hS, hN, hF, hD, hc2, hC2⟩
  obtain ⟨A1, a1, A2, a2, rfl, rfl, rfl⟩ := sVR_form hS
  have hB2 := Lib.hid (hHB2.out.chg hC2 (by simp; omega))
  have hB3 := Lib.hid (hHB3.out.chg hC2 (by simp; omega))
  have HS := Lib.hid hS
  have HN := Lib.hid hN
  have HF := Lib.hid hF
  have HD := Lib.hid hD
  have Hc2 := Lib.hid hc2
  have hz2 := hC2.size
  clear hS hN hF hD hHB2 hHB3 hC2 hc1 hc2
  go_upto_region 3 with fail
  refine wp_name ?_
  intro W3 hW3
  have x3 : ∃ y, W3 = ext w2 y := by rw [hW3.out]; exact (by refine Chg.isExt (F := []) ?_ (refl_ext _) (by simp); repeat (with_reducible (first | exact Chg.refl _ _ | exact Nat.le_refl _ | exact Chg.ofExt (by assumption) | refine Chg.trans0 ?_ (by assumption) | refine Chg.extS ?_ _ | refine Chg.alloc ?_ _ | refine Chg.drew ?_ | refine Chg.setCellE ?_ ?_ _ | refine le_addk ?_ _ | refine le_ext ?_ | refine le_alloc ?_ _ | refine le_setC ?_ _ _ | refine le_drew ?_ | assumption | (refine Nat.le_of_lt ?_; omega) | omega)))
  have B5 : BoxAt W3 w2.heap.size #[.slice A1 d1.1.length a1, .int .i64 d1.2.1, .slice A2 d1.2.2.length a2] := by rw [hW3.out]; exact (by repeat (with_reducible (first | assumption | exact BoxAt.new _ _ _ | apply BoxAt.set3 | refine BoxAt.set3' ?_ (by omega) | apply BoxAt.set30 | apply BoxAt.set31 | apply BoxAt.set32 | apply BoxAt.set2 | refine BoxAt.set2' ?_ (by omega) | apply BoxAt.setP0 | apply BoxAt.setP1 | refine BoxAt.setO ?_ (by omega) | refine BoxAt.alloc ?_ _ | refine BoxAt.drew ?_ | refine BoxAt.toExt ?_ (by assumption))))
  have hB2' := Lib.hid (hB2.out.toExt x3)
  have hB3' := Lib.hid (hB3.out.toExt x3)
  have HS' := Lib.hid (OD.toExt HS.out x3)
  have Hc3 := Lib.hid (Hc2.out.toExt x3)
  have hF2 := SMono.lt HS.out
  obtain ⟨b5, q5⟩ : ∃ b, w2.heap.size = b := ⟨_, rfl⟩
  rw [q5] at B5 hz2 hF2 ⊢
  have h53 : b5 < W3.heap.size := B5.1
  obtain ⟨l5, k50, k51, k52, f5⟩ := box3 B5
  have HB5 := Lib.hid B5
  clear hW3 q5 B5 hB2 hB3 HS
  go_wp2_with fail
  go_region_with (first | (go_at_call 113; (with_reducible refine (l11Bag_any (Hc3.out.toExt (drew_ext _))).mono ?_); rintro e w4 ⟨u0, u1, u2, G, d2, rfl, hS4, hN4, hF4, hD4, hc4, hC4⟩; obtain ⟨A3, a3, A4, a4, rfl, rfl, rfl⟩ := sVR_form hS4; obtain ⟨l52, k502, k512, k522, f52⟩ := box3 ((hB2'.out.drew).chg hC4 (by simp; omega)); obtain ⟨l53', k503, k513, k523, f53⟩ := box3 ((hB3'.out.drew).chg hC4 (by simp; omega)); obtain ⟨l54, k504, k514, k524, f54⟩ := box3 ((HB5.out.drew).chg hC4 (by simp; omega))))
  all_goals
    have xw4 := Lib.hid (trans_ext xW hc4.2.1)
    have S1 := Lib.hid (OD.chg (OD.toExt HS'.out (drew_ext _)) hC4 (fun b hb h => by have := HF.out b hb; rw [List.mem_singleton.1 h] at this; omega))
    have S2 := Lib.hid hS4
    have hD4' := Lib.hid hD4
    have HG : Hid (∀ b ∈ G, w.heap.size + 1 < b) := Lib.hid (fun b hb => by have h9 := hF4 b hb; rw [show W3.drew.heap.size = W3.heap.size from rfl] at h9; omega)
    clear hS4 hN4 hF4 hD4 hc4 hC4
    go_wp2
    refine bodyPost_ret (v := .tuple #[.agg #[.slice A1 d1.1.length a1, .int .i64 d1.2.1, .slice A2 d1.2.2.length a2], .agg #[.slice A3 d2.1.length a3, .int .i64 d2.2.1, .slice A4 d2.2.2.length a4]]) (by simp [results, Try.results40, go_sem, *]) rfl ?_
    show TwoBP w _ _
    have hC9 := ((((((Chg.refl [w.heap.size, w.heap.size + 1] w4).setCell (p := ⟨w.heap.size, 0, none⟩) (.inl (by simp)) (.slice A1 d1.1.length a1)).setCell (p := ⟨w.heap.size, 1, none⟩) (.inl (by simp)) (.int .i64 d1.2.1)).setCell (p := ⟨w.heap.size, 2, none⟩) (.inl (by simp)) (.slice A2 d1.2.2.length a2)).setCell (p := ⟨w.heap.size + 1, 0, none⟩) (.inl (by simp)) (.slice A3 d2.1.length a3)).setCell (p := ⟨w.heap.size + 1, 1, none⟩) (.inl (by simp)) (.int .i64 d2.2.1)).setCell (p := ⟨w.heap.size + 1, 2, none⟩) (.inl (by simp)) (.slice A4 d2.2.2.length a4)
    exact ⟨_, _, _, _, _, _, F, G, d1, d2, rfl, OD.chg S1.out hC9 (fun b hb h => by have := HF.out b hb; simp at h; omega), OD.chg S2.out hC9 (fun b hb h => by have := HG.out b hb; simp at h; omega), HD.out, hD4'.out, fun b hb => by have := HF.out b hb; omega, fun b hb => by have := HG.out b hb; omega, hC9.isExt xw4.out (by simp)⟩
set_option maxRecDepth 100000 in
set_option maxHeartbeats 4000000 in
theorem DrawNaturalJoin_any {A : Option Addr} {c : Nat} {bs : List UInt8} {w : World} (hx : bs.length ≤ 1048576) (h1 : RU w A bs) :
    Calls Try.prog 49 #[.slice A bs.length c] w (TwoBP w) := by
  go_enter Try.func49, Try.ntmps49
  go_upto_region 1 with fail
  refine wp_name ?_
  intro W hW
  have xW : ∃ y, W = ext w y := by rw [hW.out]; exact trans_ext (alloc_ext _ _) (alloc_ext _ _)
  have B2 : BoxAt W w.heap.size #[.slice none 0 0, .int .i64 0, .slice none 0 0] := by rw [hW.out]; exact (BoxAt.new _ _ _).toExt (alloc_ext _ _)
  have B3 : BoxAt W (w.heap.size + 1) #[.slice none 0 0, .int .i64 0, .slice none 0 0] := by
    rw [hW.out]
    have h := BoxAt.new (w.alloc (.cells #[.slice none 0 0, .int .i64 0, .slice none 0 0] 65)) #[.slice none 0 0, .int .i64 0, .slice none 0 0] 65
    rw [World.size_alloc] at h
    exact h
  have hB2 := Lib.hid B2
  have hB3 := Lib.hid B3
  have hzW := B3.1
  clear hW B2 B3
  go_wp2_with fail
  refine (DrawSemiJoin_any hx (h1.toExt xW)).mono ?_
  rintro e w4 ⟨v0, v1, v2, u0, u1, u2, F, G, d1, d2, rfl, hS1, hS2, hD1, hD2, hF, hG, hx4⟩
  obtain ⟨A1, a1, A2, a2, rfl, rfl, rfl⟩ := sVR_form hS1
  obtain ⟨A3, a3, A4, a4, rfl, rfl, rfl⟩ := sVR_form hS2
  obtain ⟨l2, k20, k21, k22, f2⟩ := box3 (hB2.out.toExt hx4)
  obtain ⟨l3, k30, k31, k32, f3⟩ := box3 (hB3.out.toExt hx4)
  have S1 := Lib.hid hS1
  have S2 := Lib.hid hS2
  have HD1 := Lib.hid hD1
  have HD2 := Lib.hid hD2
  have HF := Lib.hid hF
  have HG := Lib.hid hG
  have xw4 := Lib.hid (trans_ext xW hx4)
  clear hS1 hS2 hD1 hD2 hF hG hx4 hB2 hB3
  go_wp2
  refine bodyPost_ret (v := .tuple #[.agg #[.slice A1 d1.1.length a1, .int .i64 d1.2.1, .slice A2 d1.2.2.length a2], .agg #[.slice A3 d2.1.length a3, .int .i64 d2.2.1, .slice A4 d2.2.2.length a4]]) (by simp [results, Try.results49, go_sem, *]) rfl ?_
  show TwoBP w _ _
  have hC9 := ((((((Chg.refl [w.heap.size, w.heap.size + 1] w4).setCell (p := ⟨w.heap.size, 0, none⟩) (.inl (by simp)) (.slice A1 d1.1.length a1)).setCell (p := ⟨w.heap.size, 1, none⟩) (.inl (by simp)) (.int .i64 d1.2.1)).setCell (p := ⟨w.heap.size, 2, none⟩) (.inl (by simp)) (.slice A2 d1.2.2.length a2)).setCell (p := ⟨w.heap.size + 1, 0, none⟩) (.inl (by simp)) (.slice A3 d2.1.length a3)).setCell (p := ⟨w.heap.size + 1, 1, none⟩) (.inl (by simp)) (.int .i64 d2.2.1)).setCell (p := ⟨w.heap.size + 1, 2, none⟩) (.inl (by simp)) (.slice A4 d2.2.2.length a4)
  exact ⟨_, _, _, _, _, _, F, G, d1, d2, rfl, OD.chg S1.out hC9 (fun b hb h => by have := HF.out b hb; simp at h; omega), OD.chg S2.out hC9 (fun b hb h => by have := HG.out b hb; simp at h; omega), HD1.out, HD2.out, fun b hb => by have := HF.out b hb; omega, fun b hb => by have := HG.out b hb; omega, hC9.isExt xw4.out (by simp)⟩
end Go.Proofs.Ytfigcfajkilhiaa

/- The program's natural join. -/
namespace Go.Proofs.Ytfigcfajkilhiaa
open Go.RowKit

def jrow (un va r vb : List Int) (rb : List (List Int)) : List (List Int) := (rb.filter fun s => agreeB va r vb s).map fun s => glueR un va r vb s
theorem joinL_step {un va vb : List Int} {ra rb : List (List Int)} {k : Nat} (h : k < ra.length) : joinL un va (ra.take (k + 1)) vb rb = joinL un va (ra.take k) vb rb ++ jrow un va ra[k] vb rb := by
  unfold joinL jrow
  rw [List.take_succ_eq_append_getElem h, List.flatMap_append]
  simp
theorem jrow_step {un va r vb : List Int} {rb : List (List Int)} {k : Nat} (h : k < rb.length) : jrow un va r vb (rb.take (k + 1)) = jrow un va r vb (rb.take k) ++ (if agreeB va r vb rb[k] = true then [glueR un va r vb rb[k]] else []) := by
  unfold jrow
  rw [List.take_succ_eq_append_getElem h, List.filter_append, List.filter_cons, List.filter_nil, List.map_append]
  by_cases h1 : agreeB va r vb rb[k] = true <;> simp [h1]
theorem jrow_len {un va r vb : List Int} {rb : List (List Int)} {k : Nat} : (jrow un va r vb (rb.take k)).length ≤ k := by
  unfold jrow
  rw [List.length_map]
  exact Nat.le_trans (List.length_filter_le _ _) (by simp; omega)
theorem joinL_mono {un va vb : List Int} {ra rb : List (List Int)} {k : Nat} : (joinL un va (ra.take k) vb rb).length ≤ (joinL un va ra vb rb).length := by
  have : joinL un va ra vb rb = joinL un va (ra.take k) vb rb ++ joinL un va (ra.drop k) vb rb := by
    unfold joinL
    rw [← List.flatMap_append, List.take_append_drop]
  rw [this]
  simp
theorem glueO_get {un va r vb s : List Int} (h : un.all (okG va r vb s) = agreeB va r vb s) (h2 : agreeB va r vb s = true) : glueO un va r vb s = some (glueR un va r vb s) := by
  unfold glueO
  rw [h, h2]
  rfl
set_option maxRecDepth 100000 in
set_option maxHeartbeats 16000000 in
theorem NaturalJoin_any {A B A' B' : Option Addr} {a b a' b' : Nat} {d d' : VRd} {w : World} (hb : BVR d) (h : vVR w [.slice A d.1.length a, .int .i64 d.2.1, .slice B d.2.2.length b] d) (hb' : BVR d') (h' : vVR w [.slice A' d'.1.length a', .int .i64 d'.2.1, .slice B' d'.2.2.length b'] d') :
    Calls Try.prog 50 #[.agg #[.slice A d.1.length a, .int .i64 d.2.1, .slice B d.2.2.length b], .agg #[.slice A' d'.1.length a', .int .i64 d'.2.1, .slice B' d'.2.2.length b']] w (VROut (joinR d d') w) := by
  obtain ⟨r1, r2, _⟩ := vVR_get h
  obtain ⟨s1, s2, _⟩ := vVR_get h'
  have r3 := (vII_get (vRel_get r2).2).2
  have s3 := (vII_get (vRel_get s2).2).2
  have HVa := Lib.hid h
  have HVb := Lib.hid h'
  have Hba := Lib.hid hb
  have Hbb := Lib.hid hb'
  obtain ⟨t1, ht1⟩ : ∃ t, vrB d = t := ⟨_, rfl⟩
  obtain ⟨t2, ht2⟩ : ∃ t, vrB d' = t := ⟨_, rfl⟩
  have HT1 := Lib.hid ht1
  have HT2 := Lib.hid ht2
  clear h h' hb hb' r2 s2 ht1 ht2
  go_enter Try.func50, Try.ntmps50
  go_upto_region 1 with fail
  refine wp_name ?_
  intro W hW
  have xW : ∃ y, W = ext w y := by rw [hW.out]; exact (by refine Chg.isExt (F := []) ?_ (refl_ext _) (by simp); repeat (with_reducible (first | exact Chg.refl _ _ | exact Nat.le_refl _ | exact Chg.ofExt (by assumption) | refine Chg.trans0 ?_ (by assumption) | refine Chg.extS ?_ _ | refine Chg.alloc ?_ _ | refine Chg.drew ?_ | refine Chg.setCellE ?_ ?_ _ | refine le_addk ?_ _ | refine le_ext ?_ | refine le_alloc ?_ _ | refine le_setC ?_ _ _ | refine le_drew ?_ | assumption | (refine Nat.le_of_lt ?_; omega) | omega)))
  have BW0 : BoxAt W (w.heap.size) #[.slice A d.1.length a, .int .i64 d.2.1, .slice B d.2.2.length b] := by rw [hW.out]; refine ⟨?_, fun j => ?_, fun j => ?_⟩ <;> go_simp
  obtain ⟨lW0, bW0, fW0⟩ := BW0
  have cW0_0 : W.cell? ⟨w.heap.size, 0, none⟩ = some (.slice A d.1.length a) := bW0 0
  have cW0_1 : W.cell? ⟨w.heap.size, 1, none⟩ = some (.int .i64 d.2.1) := bW0 1
  have cW0_2 : W.cell? ⟨w.heap.size, 2, none⟩ = some (.slice B d.2.2.length b) := bW0 2
  have BW1 : BoxAt W (w.heap.size + 1) #[.slice A' d'.1.length a', .int .i64 d'.2.1, .slice B' d'.2.2.length b'] := by rw [hW.out]; refine ⟨?_, fun j => ?_, fun j => ?_⟩ <;> go_simp
  obtain ⟨lW1, bW1, fW1⟩ := BW1
  have cW1_0 : W.cell? ⟨w.heap.size + 1, 0, none⟩ = some (.slice A' d'.1.length a') := bW1 0
  have cW1_1 : W.cell? ⟨w.heap.size + 1, 1, none⟩ = some (.int .i64 d'.2.1) := bW1 1
  have cW1_2 : W.cell? ⟨w.heap.size + 1, 2, none⟩ = some (.slice B' d'.2.2.length b') := bW1 2
  have BW2 : BoxAt W (w.heap.size + 1 + 1) #[.slice none 0 0, .int .i64 0, .slice none 0 0] := by rw [hW.out]; refine ⟨?_, fun j => ?_, fun j => ?_⟩ <;> go_simp
  obtain ⟨lW2, bW2, fW2⟩ := BW2
  have cW2_0 : W.cell? ⟨w.heap.size + 1 + 1, 0, none⟩ = some (.slice none 0 0) := bW2 0
  have cW2_1 : W.cell? ⟨w.heap.size + 1 + 1, 1, none⟩ = some (.int .i64 0) := bW2 1
  have cW2_2 : W.cell? ⟨w.heap.size + 1 + 1, 2, none⟩ = some (.slice none 0 0) := bW2 2
  clear hW
  have PW : BoxAt W w.heap.size #[.slice A d.1.length a, .int .i64 d.2.1, .slice B d.2.2.length b] := ⟨lW0, bW0, fW0⟩
  have QW : BoxAt W (w.heap.size + 1) #[.slice A' d'.1.length a', .int .i64 d'.2.1, .slice B' d'.2.2.length b'] := ⟨lW1, bW1, fW1⟩
  have RW : BoxAt W (w.heap.size + 1 + 1) #[.slice none 0 0, .int .i64 0, .slice none 0 0] := ⟨lW2, bW2, fW2⟩
  cases t1 with
  | false =>
    have HZ := Lib.hid (show joinR d d' = none by unfold joinR; rw [HT1.out]; simp)
    go_wp2_with (go_at_call 44; refine (IsValidVarRelation_any Hba.out (VD.toExt HVa.out xW)).mono ?_; rintro e w3 ⟨rfl, hx3⟩; rw [HT1.out]; obtain ⟨l3, a3, a3', a3'', f3⟩ := box3 (RW.toExt hx3))
    refine bodyPost_ret (v := .tuple #[.agg #[.slice none 0 0, .int .i64 0, .slice none 0 0], .bool false]) (by simp [results, Try.results50, go_sem, *]) rfl (vrOut_none HZ.out rfl (by refine Chg.isExt (F := []) ?_ (refl_ext _) (by simp); repeat (with_reducible (first | exact Chg.refl _ _ | exact Nat.le_refl _ | exact Chg.ofExt (by assumption) | refine Chg.trans0 ?_ (by assumption) | refine Chg.extS ?_ _ | refine Chg.alloc ?_ _ | refine Chg.drew ?_ | refine Chg.setCellE ?_ ?_ _ | refine le_addk ?_ _ | refine le_ext ?_ | refine le_alloc ?_ _ | refine le_setC ?_ _ _ | refine le_drew ?_ | assumption | (refine Nat.le_of_lt ?_; omega) | omega))))
  | true =>
    cases t2 with
    | false =>
      have HZ := Lib.hid (show joinR d d' = none by unfold joinR; rw [HT2.out]; simp)
      go_wp2_with (first
        | (go_at_call 44; with_reducible refine (IsValidVarRelation_any Hba.out (VD.toExt HVa.out ?_)).mono ?_; (focus (exact xW)); rintro e w3 ⟨rfl, hx3⟩; rw [HT1.out]; obtain ⟨l3, a3, a3', a3'', f3⟩ := box3 (QW.toExt hx3))
        | (go_at_call 44; with_reducible refine (IsValidVarRelation_any Hbb.out (VD.toExt HVb.out ?_)).mono ?_; (focus (exact (trans_ext xW hx3))); rintro e w4 ⟨rfl, hx4⟩; rw [HT2.out]; obtain ⟨l4, a4, a4', a4'', f4⟩ := box3 (RW.toExt (trans_ext hx3 hx4))))
      refine bodyPost_ret (v := .tuple #[.agg #[.slice none 0 0, .int .i64 0, .slice none 0 0], .bool false]) (by simp [results, Try.results50, go_sem, *]) rfl (vrOut_none HZ.out rfl (by refine Chg.isExt (F := []) ?_ (refl_ext _) (by simp); repeat (with_reducible (first | exact Chg.refl _ _ | exact Nat.le_refl _ | exact Chg.ofExt (by assumption) | refine Chg.trans0 ?_ (by assumption) | refine Chg.extS ?_ _ | refine Chg.alloc ?_ _ | refine Chg.drew ?_ | refine Chg.setCellE ?_ ?_ _ | refine le_addk ?_ _ | refine le_ext ?_ | refine le_alloc ?_ _ | refine le_setC ?_ _ _ | refine le_drew ?_ | assumption | (refine Nat.le_of_lt ?_; omega) | omega))))
    | true =>
      have HA := Lib.hid (vrB_iff.1 HT1.out)
      have HB := Lib.hid (vrB_iff.1 HT2.out)
      go_upto_region 3 with (first
        | (go_at_call 44; with_reducible refine (IsValidVarRelation_any Hba.out (VD.toExt HVa.out ?_)).mono ?_; (focus (exact xW)); rintro e w3 ⟨rfl, hx3⟩; rw [HT1.out]; obtain ⟨l3, a3, a3', a3'', f3⟩ := box3 (QW.toExt hx3))
        | (go_at_call 44; with_reducible refine (IsValidVarRelation_any Hbb.out (VD.toExt HVb.out ?_)).mono ?_; (focus (exact (trans_ext xW hx3))); rintro e w4 ⟨rfl, hx4⟩; rw [HT2.out]))
      have x4 := trans_ext hx3 hx4
      have xw4 := trans_ext xW x4
      have P4 := PW.toExt x4
      have Q4 := QW.toExt x4
      have R4 := RW.toExt x4
      obtain ⟨lp, p0, p1, p2, fp⟩ := box3 P4
      obtain ⟨lq, q0, q1, q2, fq⟩ := box3 Q4
      have hva5 : d.1.length ≤ 5 := HA.out.len
      have hvb5 : d'.1.length ≤ 5 := HB.out.len
      clear PW QW RW lW0 bW0 fW0 cW0_0 cW0_1 cW0_2 lW1 bW1 fW1 cW1_0 cW1_1 cW1_2 lW2 bW2 fW2 cW2_0 cW2_1 cW2_2 l3 a3 a3' a3'' f3 xW hx3 hx4
      go_wp2_with fail
      refine (unite_v (by omega) (r1.toExt xw4) (by omega) (s1.toExt xw4)).mono ?_
      rintro e W6 ⟨vu, Fu, rfl, hx6, hSu, hFu⟩
      obtain ⟨Au, cu, rfl, _⟩ := hSu.form
      have HFu := Lib.hid hFu
      have hun := uniL_length d'.1 d.1
      have Hun := Lib.hid (fun v (hv : v ∈ uniL d.1 d'.1) => mem_uniL.1 hv)
      have Hag := Lib.hid (fun r s => okG_agree (un := uniL d.1 d'.1) (va := d.1) (r := r) (vb := d'.1) (s := s) (fun v => mem_uniL))
      have HJ : Hid (∀ un, uniL d.1 d'.1 = un → ((joinL un d.1 d.2.2 d'.1 d'.2.2).length ≤ 4000 → joinR d d' = some (un, (un.length : Int), sortR (joinL un d.1 d.2.2 d'.1 d'.2.2))) ∧ (¬ (joinL un d.1 d.2.2 d'.1 d'.2.2).length ≤ 4000 → joinR d d' = none)) := Lib.hid (by
        rintro un rfl
        refine ⟨fun h => ?_, fun h => ?_⟩
        · unfold joinR; rw [if_pos ⟨⟨HT1.out, HT2.out⟩, h⟩]; rfl
        · unfold joinR; rw [if_neg (fun k => h k.2)])
      obtain ⟨un, hune⟩ : ∃ u, uniL d.1 d'.1 = u := ⟨_, rfl⟩
      have HJ := Lib.hid (HJ.out un hune)
      rw [hune] at hSu hun Hun Hag ⊢
      have P6 := P4.toExt hx6
      have Q6 := Q4.toExt hx6
      have R6 := R4.toExt hx6
      have xw6 := trans_ext xw4 hx6
      have hunx : un.length ≤ 10 := by omega
      have hra := HA.out.cnt
      have hrb := HB.out.cnt
      have HAl := Lib.hid HA.out.rl
      have HBl := Lib.hid HB.out.rl
      have hRs := R6.1
      have hw4s := R4.1
      clear hune lp p0 p1 p2 fp lq q0 q1 q2 fq P4 Q4 R4 HT1 HT2 HVa HVb Hba Hbb HA HB hFu
      obtain ⟨lp6, p60, p61, p62, fp6⟩ := box3 P6
      go_wp2_with fail
      go_loopw [7, 32] (fun v i wr => ∃ (k : Nat) (F : List Nat), i = .int .i64 k ∧ k ≤ d.2.2.length ∧ (joinL un d.1 (d.2.2.take k) d'.1 d'.2.2).length ≤ 4000 ∧ SV 48 1 sRow wr v (joinL un d.1 (d.2.2.take k) d'.1 d'.2.2) F ∧ Hid F.Nodup ∧ Hid (∀ x ∈ F, W6.heap.size ≤ x) ∧ ∃ y, wr = ext W6 y) (fun _ i _ => d.2.2.length - (intOf i).toNat)
      case atStart => exact ⟨0, [], rfl, by omega, by simp [joinL], by simpa [joinL] using SV.nil, Lib.hid (by simp), Lib.hid (by simp), refl_ext W6⟩
      case round =>
        obtain ⟨k, F, rfl, hk, hjl, hS, HN, HF, hy⟩ := hrel
        clear lp6 p60 p61 p62 fp6
        have hw := trans_ext xw6 hy
        by_cases hlt : k < d.2.2.length
        · obtain ⟨br, orr, A4, c4, rfl, hbr0, hcr0, hvr⟩ := r3.atV hlt
          have hbr : br < wr.heap.size := Nat.lt_of_lt_of_le hbr0 (size_of_ext hw)
          have hcr : wr.cell? ⟨br, orr + k, none⟩ = some (.slice A4 d.2.2[k].length c4) := by obtain ⟨y, e⟩ := hw; rw [e, cell_ext hbr0]; exact hcr0
          clear hcr0
          have lr := HAl.out _ (List.getElem_mem hlt)
          have Hst := Lib.hid (joinL_step (un := un) (va := d.1) (vb := d'.1) (rb := d'.2.2) hlt)
          have HMO := Lib.hid (joinL_mono (un := un) (va := d.1) (vb := d'.1) (ra := d.2.2) (rb := d'.2.2) (k := k + 1))
          obtain ⟨r, hr⟩ : ∃ r, d.2.2[k] = r := ⟨_, rfl⟩
          rw [hr] at hcr hvr lr Hst
          obtain ⟨jl, hjle⟩ : ∃ l, joinL un d.1 (d.2.2.take k) d'.1 d'.2.2 = l := ⟨_, rfl⟩
          rw [hjle] at Hst hjl hS
          have HLR := Lib.hid lr
          have HSU := Lib.hid (hSu.toExt hy)
          clear hr hjle lr
          obtain ⟨lp7, p70, p71, p72, fp7⟩ := box3 (P6.toExt hy)
          obtain ⟨lq7, q70, q71, q72, fq7⟩ := box3 (Q6.toExt hy)
          obtain ⟨wo, rfl⟩ : ∃ wo : World, wo = wr := ⟨_, rfl⟩
          have HS := Lib.hid hS
          clear hS
          go_wp2_with fail
          go_loopw [7, 40] (fun v j wi => ∃ (k2 : Nat) (F2 : List Nat), j = .int .i64 k2 ∧ k2 ≤ d'.2.2.length ∧ SV 48 1 sRow wi v (jl ++ jrow un d.1 r d'.1 (d'.2.2.take k2)) F2 ∧ Hid F2.Nodup ∧ Hid (∀ x ∈ F2, W6.heap.size ≤ x) ∧ ∃ y, wi = ext W6 y) (fun _ j _ => d'.2.2.length - (intOf j).toNat)
          case atStart => exact ⟨0, F, rfl, by omega, by simpa [jrow] using HS.out, HN, HF, hy⟩
          case round =>
            obtain ⟨k2, F2, rfl, hk2, hS2, HN2, HF2, hyi⟩ := hrel
            have hwi := trans_ext xw6 hyi
            clear lp7 p70 p71 p72 fp7 lq7 q70 q71 q72 fq7
            obtain ⟨lp8, p80, p81, p82, fp8⟩ := box3 (P6.toExt hyi)
            obtain ⟨lq8, q80, q81, q82, fq8⟩ := box3 (Q6.toExt hyi)
            have hjl2 := jrow_len (un := un) (va := d.1) (r := r) (vb := d'.1) (rb := d'.2.2) (k := k2)
            by_cases hlt2 : k2 < d'.2.2.length
            · obtain ⟨bs, os, A5, c5, rfl, hbs, hcs, hvs⟩ := (s3.toExt hwi).atV hlt2
              have ls := HBl.out _ (List.getElem_mem hlt2)
              have HJS := Lib.hid (jrow_step (un := un) (va := d.1) (r := r) (vb := d'.1) hlt2)
              obtain ⟨s, hs⟩ : ∃ s, d'.2.2[k2] = s := ⟨_, rfl⟩
              rw [hs] at hcs hvs ls HJS
              obtain ⟨jr, hjr⟩ : ∃ j, jrow un d.1 r d'.1 (d'.2.2.take k2) = j := ⟨_, rfl⟩
              rw [hjr] at HJS hS2 hjl2
              have HLS := Lib.hid ls
              obtain ⟨o, ho⟩ : ∃ o, glueO un d.1 r d'.1 s = o := ⟨_, rfl⟩
              have HG := Lib.hid ho
              have hos : o.isSome = agreeB d.1 r d'.1 s := by rw [← ho]; exact glueO_some (Hag.out r s)
              have hget := Lib.hid (fun h => glueO_get (Hag.out r s) h)
              obtain ⟨t, ht⟩ : ∃ t, agreeB d.1 r d'.1 s = t := ⟨_, rfl⟩
              rw [ht] at hos HJS
              have HOS := Lib.hid hos
              have HTT := Lib.hid ht
              have hruw := (hSu.toExt hyi).toView sI_v
              have hlk : (jl ++ jr).length + 1 ≤ 2000000000 := by rw [List.length_append]; omega
              have HFl2 := Lib.hid hS2.lt
              clear hs ho hos ht hjr ls
              cases t with
              | false =>
                have HST := Lib.hid (show jrow un d.1 r d'.1 (d'.2.2.take (k2 + 1)) = jr by rw [HJS.out, if_neg (by simp), List.append_nil])
                go_wp2_with (go_at_call 116; refine (glue_any (by omega) hruw (by omega) (r1.toExt hwi) HLR.out (hvr.toExt hwi) (by omega) (s1.toExt hwi) HLS.out hvs Hun.out).mono ?_; rw [HG.out]; rintro e w8 ⟨vg, Fg, rfl, hx8, hSg, hFg⟩; rw [HOS.out])
                exact ⟨⟨k2 + 1, F2, by go_num, by omega, by rw [HST.out]; exact hS2.toExt hx8, HN2, HF2, trans_ext hyi hx8⟩, by simp [intOf]; omega⟩
              | true =>
                have HST := Lib.hid (show jl ++ jrow un d.1 r d'.1 (d'.2.2.take (k2 + 1)) = jl ++ jr ++ [glueR un d.1 r d'.1 s] by rw [HJS.out, if_pos rfl, List.append_assoc])
                have HGS := Lib.hid (show o.getD [] = glueR un d.1 r d'.1 s by rw [← HG.out, hget.out HTT.out]; rfl)
                obtain ⟨g, hg⟩ : ∃ g, glueR un d.1 r d'.1 s = g := ⟨_, rfl⟩
                rw [hg] at HST HGS
                clear hg
                go_wp2_with (first
                  | (go_at_call 116; refine (glue_any (by omega) hruw (by omega) (r1.toExt hwi) HLR.out (hvr.toExt hwi) (by omega) (s1.toExt hwi) HLS.out hvs Hun.out).mono ?_; rw [HG.out]; rintro e w8 ⟨vg, Fg, rfl, hx8, hSg, hFg⟩; rw [HOS.out]; rw [HGS.out] at hSg; obtain ⟨A9, c9, rfl, _, _⟩ := hSg.form; have hN3 := nodup_more HN2.out hSg.nodup HFl2.out hFg; have hz8 := size_of_ext hx8)
                  | (at_builtin; refine wpList_appN (E := sRow) (d := g) (G := Fg) rfl _ _ _ rfl tIIr rfl rfl rfl (by simp) ⟨_, rfl, hSg⟩ rfl (by simp [Value.oneCell']) (hS2.toExt hx8) hN3 hlk (by omega) ?_; intro v' w' F' hS' hC' hN' hF'))
                refine ⟨⟨k2 + 1, F', by go_num, by omega, by rw [HST.out]; exact hS', Lib.hid hN', Lib.hid (fun b hb => ?_), hC'.isExt (trans_ext hyi hx8) HF2.out⟩, by simp [intOf]; omega⟩
                have hzw := size_of_ext hyi
                rcases hF' b hb with h | h | h
                · exact HF2.out b h
                · have := hFg b h; omega
                · omega
            · have HST := Lib.hid (show joinL un d.1 (d.2.2.take (k + 1)) d'.1 d'.2.2 = jl ++ jrow un d.1 r d'.1 d'.2.2 by rw [Hst.out])
              rw [show d'.2.2.take k2 = d'.2.2 from List.take_of_length_le (by omega)] at hS2
              rw [← HST.out] at hS2
              obtain ⟨A7, c7, rfl, _, _⟩ := hS2.form
              by_cases h4 : (joinL un d.1 (d.2.2.take (k + 1)) d'.1 d'.2.2).length ≤ 4000
              · obtain ⟨jn, hjn⟩ : ∃ l, joinL un d.1 (d.2.2.take (k + 1)) d'.1 d'.2.2 = l := ⟨_, rfl⟩
                have HJN := Lib.hid hjn
                rw [hjn] at hS2 h4 ⊢
                clear hjn
                go_wp2
                exact ⟨⟨k + 1, F2, by go_num, by omega, by rw [HJN.out]; exact h4, by rw [HJN.out]; exact hS2, HN2, HF2, hyi⟩, by simp [intOf]; omega⟩
              · have HZ := Lib.hid (HJ.out.2 (fun h => h4 (Nat.le_trans HMO.out h)))
                obtain ⟨jn, hjn⟩ : ∃ l, joinL un d.1 (d.2.2.take (k + 1)) d'.1 d'.2.2 = l := ⟨_, rfl⟩
                rw [hjn] at hS2 h4 ⊢
                obtain ⟨lr8, r80, r81, r82, fr8⟩ := box3 (R6.toExt hyi)
                have h5 : 4000 < jn.length := by omega
                clear hjn
                go_wp2
                refine bodyPost_ret (v := .tuple #[.agg #[.slice none 0 0, .int .i64 0, .slice none 0 0], .bool false]) (by simp [results, Try.results50, go_sem, *]) rfl (vrOut_none HZ.out rfl (by refine Chg.isExt (F := []) ?_ (refl_ext _) (by simp); repeat (with_reducible (first | exact Chg.refl _ _ | exact Nat.le_refl _ | exact Chg.ofExt (by assumption) | refine Chg.trans0 ?_ (by assumption) | refine Chg.extS ?_ _ | refine Chg.alloc ?_ _ | refine Chg.drew ?_ | refine Chg.setCellE ?_ ?_ _ | refine le_addk ?_ _ | refine le_ext ?_ | refine le_alloc ?_ _ | refine le_setC ?_ _ _ | refine le_drew ?_ | assumption | (refine Nat.le_of_lt ?_; omega) | omega))))
        · obtain rfl : k = d.2.2.length := by omega
          rw [List.take_of_length_le (Nat.le_refl _)] at hS hjl
          have HZ := Lib.hid (HJ.out.1 hjl)
          have HLE := Lib.hid (show ∀ x ∈ joinL un d.1 d.2.2 d'.1 d'.2.2, x.length ≤ 1000000000 from fun x hx => by
            unfold joinL at hx
            simp only [List.mem_flatMap, List.mem_map] at hx
            obtain ⟨_, _, _, _, rfl⟩ := hx
            simp [glueR]
            omega)
          obtain ⟨jn, hjn⟩ : ∃ l, joinL un d.1 d.2.2 d'.1 d'.2.2 = l := ⟨_, rfl⟩
          rw [hjn] at hS hjl HZ HLE
          obtain ⟨A7, c7, rfl, hc7, _, rv7⟩ := hS.view (V := vSl 1 vI) (sSl_v sI_v)
          obtain ⟨sr, hsr⟩ : ∃ s, sortR jn = s := ⟨_, rfl⟩
          have HSR := Lib.hid hsr
          rw [hsr] at HZ
          have hjb : jn.length ≤ 1000000000 := by omega
          clear hjn hsr
          go_wp2_with (go_at_call 126; refine (sorted_any jn.length A7 c7 jn _ (Nat.le_refl _) hjb hc7 HLE.out rv7).mono ?_; rintro e w8 ⟨v8, F8, rfl, hx8, hS8, hN8, hF8⟩; rw [HSR.out] at hS8; obtain ⟨A8, c8, rfl, _, _⟩ := hS8.form; obtain ⟨lr8, r80, r81, r82, fr8⟩ := box3 (R6.toExt (trans_ext hy hx8)))
          have hz6 := size_of_ext hy
          have hz4 := size_of_ext hx6
          have hzw := size_of_ext xw4
          have hSu8 := hSu.toExt (trans_ext hy hx8)
          have hltu := hSu.lt
          refine bodyPost_ret (v := .tuple #[.agg #[.slice Au un.length cu, .int .i64 un.length, .slice A8 sr.length c8], .bool true]) (by simp [results, Try.results50, go_sem, *]) rfl ⟨_, _, _, Fu ++ F8, by rw [HZ.out]; rfl, (by refine Chg.isExt (F := []) ?_ (refl_ext _) (by simp); repeat (with_reducible (first | exact Chg.refl _ _ | exact Nat.le_refl _ | exact Chg.ofExt (by assumption) | refine Chg.trans0 ?_ (by assumption) | refine Chg.extS ?_ _ | refine Chg.alloc ?_ _ | refine Chg.drew ?_ | refine Chg.setCellE ?_ ?_ _ | refine le_addk ?_ _ | refine le_ext ?_ | refine le_alloc ?_ _ | refine le_setC ?_ _ _ | refine le_drew ?_ | assumption | (refine Nat.le_of_lt ?_; omega) | omega))), ?_, ?_, fun b hb => ?_⟩
          · rw [HZ.out]
            refine sVR_mk (hSu8.chg (G := [w.heap.size + 1 + 1]) (by repeat (with_reducible (first | exact Chg.refl _ _ | refine Chg.trans0 ?_ (by assumption) | refine Chg.extS ?_ _ | refine Chg.alloc ?_ _ | refine Chg.drew ?_ | refine Chg.setCell ?_ (.inl (by simp)) _))) ?_) (OD.chg (E := sII) (G := [w.heap.size + 1 + 1]) ⟨_, rfl, hS8⟩ (by repeat (with_reducible (first | exact Chg.refl _ _ | refine Chg.trans0 ?_ (by assumption) | refine Chg.extS ?_ _ | refine Chg.alloc ?_ _ | refine Chg.drew ?_ | refine Chg.setCell ?_ (.inl (by simp)) _))) ?_)
            · intro b hb h
              have := HFu.out b hb
              rw [List.mem_singleton.1 h] at this
              omega
            · intro b hb h
              have := hF8 b hb
              rw [List.mem_singleton.1 h] at this
              omega
          · exact nodup_more (n := W6.heap.size) hSu.nodup hN8 hltu (fun b hb => by have := hF8 b hb; omega)
          · rcases List.mem_append.1 hb with h | h
            · have := HFu.out b h; omega
            · have := hF8 b h; omega
end Go.Proofs.Ytfigcfajkilhiaa

/- The common columns of two labeled relations, and all their variables: the reference's way. -/
namespace Go.Proofs.Ytfigcfajkilhiaa
open Go.RowKit

def botF (va vb : List Int) (k : Nat) : List Nat := (List.range k).filter fun i => decide (va.getD i 0 ∈ vb)
def botX (va vb : List Int) (k : Nat) : List Int := (botF va vb k).map fun (i : Nat) => (i : Int)
def botY (va vb : List Int) (k : Nat) : List Int := (botF va vb k).map fun (i : Nat) => iof 0 (va.getD i 0) vb
theorem botF_step {va vb : List Int} {k : Nat} : botF va vb (k + 1) = botF va vb k ++ (if va.getD k 0 ∈ vb then [k] else []) := by
  unfold botF
  rw [List.range_succ, List.filter_append, List.filter_cons, List.filter_nil]
  by_cases h : va.getD k 0 ∈ vb
  · rw [if_pos (show decide (va.getD k 0 ∈ vb) = true from decide_eq_true h), if_pos h]
  · rw [if_neg (show ¬ decide (va.getD k 0 ∈ vb) = true by simpa using h), if_neg h]
theorem botX_yes {va vb : List Int} {k : Nat} (h : va.getD k 0 ∈ vb) : botX va vb (k + 1) = botX va vb k ++ [(k : Int)] := by unfold botX; rw [botF_step, if_pos h, List.map_append]; rfl
theorem botY_yes {va vb : List Int} {k : Nat} (h : va.getD k 0 ∈ vb) : botY va vb (k + 1) = botY va vb k ++ [iof 0 (va.getD k 0) vb] := by unfold botY; rw [botF_step, if_pos h, List.map_append]; rfl
theorem botX_no {va vb : List Int} {k : Nat} (h : va.getD k 0 ∉ vb) : botX va vb (k + 1) = botX va vb k := by unfold botX; rw [botF_step, if_neg h, List.append_nil]
theorem botY_no {va vb : List Int} {k : Nat} (h : va.getD k 0 ∉ vb) : botY va vb (k + 1) = botY va vb k := by unfold botY; rw [botF_step, if_neg h, List.append_nil]
theorem botF_len {va vb : List Int} {k : Nat} : (botF va vb k).length ≤ k := Nat.le_trans (List.length_filter_le _ _) (by simp)
theorem botX_len {va vb : List Int} {k : Nat} : (botX va vb k).length ≤ k := by unfold botX; rw [List.length_map]; exact botF_len
theorem botY_len {va vb : List Int} {k : Nat} : (botY va vb k).length ≤ k := by unfold botY; rw [List.length_map]; exact botF_len
theorem botX_in {va vb : List Int} {k : Nat} : ∀ v ∈ botX va vb k, 0 ≤ v ∧ v < k := fun v hv => by
  unfold botX botF at hv
  obtain ⟨i, hi, rfl⟩ := List.mem_map.1 hv
  have := List.mem_range.1 (List.mem_filter.1 hi).1
  omega
theorem botY_in {va vb : List Int} {k : Nat} : ∀ v ∈ botY va vb k, 0 ≤ v ∧ v < vb.length := fun v hv => by
  unfold botY botF at hv
  obtain ⟨i, hi, rfl⟩ := List.mem_map.1 hv
  have hm : va.getD i 0 ∈ vb := by simpa using (List.mem_filter.1 hi).2
  obtain ⟨p, h1, h2⟩ := iof_get (k := 0) hm
  have := (List.getElem?_eq_some_iff.1 h2).1
  rw [h1]
  omega
theorem both_agree {va vb r s : List Int} (hn : va.Nodup) (_hr : r.length = va.length) : (pickL r (botX va vb va.length) = pickL s (botY va vb va.length)) ↔ agreeB va r vb s = true := by
  unfold pickL botX botY
  rw [List.map_map, List.map_map, List.map_inj_left, agreeB_iff]
  constructor
  · intro h v hv hb
    obtain ⟨i, hi, rfl⟩ := List.getElem_of_mem hv
    have := h i (List.mem_filter.2 ⟨List.mem_range.2 hi, by rw [getDl _ _ hi]; simpa using hb⟩)
    simp only [Function.comp, Int.toNat_natCast] at this
    rw [getDl va _ hi] at this
    unfold valAt
    rw [iof_nodup hn hi, Int.toNat_natCast, Nat.zero_add, this]
  · intro h i hi
    have hi2 := List.mem_filter.1 hi
    have hl := List.mem_range.1 hi2.1
    have hb : va.getD i 0 ∈ vb := by simpa using hi2.2
    simp only [Function.comp, Int.toNat_natCast]
    rw [getDl va _ hl] at hb ⊢
    have := h _ (List.getElem_mem hl) hb
    unfold valAt at this
    rwa [iof_nodup hn hl, Int.toNat_natCast, Nat.zero_add] at this
def allV (va vb : List Int) : List Int := selF (fun v => decide (v ∈ va) || decide (v ∈ vb)) 5 0
theorem allV_eq {a b : VRd} (ha : VrOk a) (hb : VrOk b) : allV a.1 b.1 = uniL a.1 b.1 := asc_ext (asc_selF _ _) (asc_uniL ha.asc) fun x => by
  unfold allV
  rw [mem_selF, mem_uniL]
  simp only [Bool.or_eq_true, decide_eq_true_eq]
  constructor
  · exact fun h => h.2.2
  · intro h
    have : 0 ≤ x ∧ x ≤ 4 := by
      rcases h with h | h
      · exact ha.lo x h
      · exact hb.lo x h
    exact ⟨by omega, by omega, h⟩
def BotP (va vb : List Int) (w : World) (e : Ending) (w' : World) : Prop := ∃ Ax cx Ay cy, e = .returned (.tuple #[.slice Ax (botX va vb va.length).length cx, .slice Ay (botY va vb va.length).length cy]) ∧ RI w' Ax (botX va vb va.length) ∧ RI w' Ay (botY va vb va.length) ∧ ∃ y, w' = ext w y
set_option maxRecDepth 100000 in
set_option maxHeartbeats 8000000 in
theorem l11Both_any {A B A' B' : Option Addr} {a b a' b' n m : Nat} {z z' : Int} {va vb : List Int} {w : World} (hx : va.length ≤ 1000000) (h1 : RI w A va) (hy : vb.length ≤ 1000000) (h2 : RI w A' vb) :
    Calls Try.prog 117 #[.agg #[.slice A va.length a, .int .i64 z, .slice B n b], .agg #[.slice A' vb.length a', .int .i64 z', .slice B' m b']] w (BotP va vb w) := by
  go_enter Try.func117, Try.ntmps117
  go_upto_region 1 with fail
  refine wp_name ?_
  intro W hW
  have xW : ∃ y, W = ext w y := by rw [hW.out]; exact (by refine Chg.isExt (F := []) ?_ (refl_ext _) (by simp); repeat (with_reducible (first | exact Chg.refl _ _ | exact Nat.le_refl _ | exact Chg.ofExt (by assumption) | refine Chg.trans0 ?_ (by assumption) | refine Chg.extS ?_ _ | refine Chg.alloc ?_ _ | refine Chg.drew ?_ | refine Chg.setCellE ?_ ?_ _ | refine le_addk ?_ _ | refine le_ext ?_ | refine le_alloc ?_ _ | refine le_setC ?_ _ _ | refine le_drew ?_ | assumption | (refine Nat.le_of_lt ?_; omega) | omega)))
  have BW0 : BoxAt W (w.heap.size) #[.slice A va.length a, .int .i64 z, .slice B n b] := by rw [hW.out]; refine ⟨?_, fun j => ?_, fun j => ?_⟩ <;> go_simp
  obtain ⟨lW0, bW0, fW0⟩ := BW0
  have cW0_0 : W.cell? ⟨w.heap.size, 0, none⟩ = some (.slice A va.length a) := bW0 0
  have cW0_1 : W.cell? ⟨w.heap.size, 1, none⟩ = some (.int .i64 z) := bW0 1
  have cW0_2 : W.cell? ⟨w.heap.size, 2, none⟩ = some (.slice B n b) := bW0 2
  have BW1 : BoxAt W (w.heap.size + 1) #[.slice A' vb.length a', .int .i64 z', .slice B' m b'] := by rw [hW.out]; refine ⟨?_, fun j => ?_, fun j => ?_⟩ <;> go_simp
  obtain ⟨lW1, bW1, fW1⟩ := BW1
  have cW1_0 : W.cell? ⟨w.heap.size + 1, 0, none⟩ = some (.slice A' vb.length a') := bW1 0
  have cW1_1 : W.cell? ⟨w.heap.size + 1, 1, none⟩ = some (.int .i64 z') := bW1 1
  have cW1_2 : W.cell? ⟨w.heap.size + 1, 2, none⟩ = some (.slice B' m b') := bW1 2
  clear hW
  have PW : BoxAt W w.heap.size #[.slice A va.length a, .int .i64 z, .slice B n b] := ⟨lW0, bW0, fW0⟩
  have QW : BoxAt W (w.heap.size + 1) #[.slice A' vb.length a', .int .i64 z', .slice B' m b'] := ⟨lW1, bW1, fW1⟩
  have hX0 := SV.empty (α := Int) (te := 3) (size := 1) (E := sI) W
  have hY0 := SV.empty (α := Int) (te := 3) (size := 1) (E := sI) (W.alloc (.cells #[] 3))
  clear lW0 bW0 fW0 cW0_0 cW0_1 cW0_2 lW1 bW1 fW1 cW1_0 cW1_1 cW1_2
  go_wp2_with fail
  go_loopw [6, 7, 8] (fun x y i wr => ∃ (k : Nat) (Fx Fy : List Nat), i = .int .i64 k ∧ k ≤ va.length ∧ SV 3 1 sI wr x (botX va vb k) Fx ∧ SV 3 1 sI wr y (botY va vb k) Fy ∧ Hid (∀ b ∈ Fx, W.heap.size ≤ b ∧ b ∉ Fy) ∧ Hid (∀ b ∈ Fy, W.heap.size ≤ b) ∧ ∃ q, wr = ext W q) (fun _ _ i _ => va.length - (intOf i).toNat)
  case atStart => exact ⟨0, _, _, rfl, by omega, by simpa [botX, botF] using hX0.toExt (alloc_ext _ _), by simpa [botY, botF] using hY0, Lib.hid (by simp), Lib.hid (by simp), (by refine Chg.isExt (F := []) ?_ (refl_ext _) (by simp); repeat (with_reducible (first | exact Chg.refl _ _ | exact Nat.le_refl _ | exact Chg.ofExt (by assumption) | refine Chg.trans0 ?_ (by assumption) | refine Chg.extS ?_ _ | refine Chg.alloc ?_ _ | refine Chg.drew ?_ | refine Chg.setCellE ?_ ?_ _ | refine le_addk ?_ _ | refine le_ext ?_ | refine le_alloc ?_ _ | refine le_setC ?_ _ _ | refine le_drew ?_ | assumption | (refine Nat.le_of_lt ?_; omega) | omega)))⟩
  case round =>
    obtain ⟨k, Fx, Fy, rfl, hk, hSx, hSy, HFx, HFy, hq⟩ := hrel
    have hw := trans_ext xW hq
    obtain ⟨lp, p0, p1, p2, fp⟩ := box3 (PW.toExt hq)
    obtain ⟨lq, q0, q1, q2, fq⟩ := box3 (QW.toExt hq)
    by_cases hlt : k < va.length
    · obtain ⟨bv, ov, rfl, hbv, hcv⟩ := (h1.toExt hw).atI' hlt
      have HYX := Lib.hid (fun h => botX_yes (va := va) (vb := vb) (k := k) h)
      have HYY := Lib.hid (fun h => botY_yes (va := va) (vb := vb) (k := k) h)
      have HNX := Lib.hid (fun h => botX_no (va := va) (vb := vb) (k := k) h)
      have HNY := Lib.hid (fun h => botY_no (va := va) (vb := vb) (k := k) h)
      obtain ⟨v, hv⟩ : ∃ v, va.getD k 0 = v := ⟨_, rfl⟩
      rw [hv] at hcv HYX HYY HNX HNY
      clear hv
      have hlx : (botX va vb k).length + 1 ≤ 2000000000 := by have := botX_len (va := va) (vb := vb) (k := k); omega
      have hly : (botY va vb k).length + 1 ≤ 2000000000 := by have := botY_len (va := va) (vb := vb) (k := k); omega
      have h2r := h2.toExt hw
      obtain ⟨j, hj⟩ : ∃ j, iof 0 v vb = j := ⟨_, rfl⟩
      rw [hj] at HYY
      have HJ := Lib.hid hj
      have hlx2 := hSx.lt
      have hly2 := hSy.lt
      have HXl := Lib.hid hlx2
      have HYl := Lib.hid hly2
      clear hlx2 hly2
      by_cases hm : v ∈ vb
      · have hj0 : 0 ≤ j := by rw [← hj]; exact (iof_nonneg 0 vb).2 hm
        have HEX := Lib.hid (HYX.out hm)
        have HEY := Lib.hid (HYY.out hm)
        clear hj hm
        go_wp2_with fail
        refine wp_region_ext (by kernel_rfl) (by kernel_rfl) ?_
        repeat (go_big_quiet_step ((go_at_call 125; exact quietEj (l7Find_any (by omega) (h2r.toExt (by refine Chg.isExt (F := []) ?_ (refl_ext _) (by simp); repeat (with_reducible (first | exact Chg.refl _ _ | exact Nat.le_refl _ | exact Chg.ofExt (by assumption) | refine Chg.trans0 ?_ (by assumption) | refine Chg.extS ?_ _ | refine Chg.alloc ?_ _ | refine Chg.drew ?_ | refine Chg.setCellE ?_ ?_ _ | refine le_addk ?_ _ | refine le_ext ?_ | refine le_alloc ?_ _ | refine le_setC ?_ _ _ | refine le_drew ?_ | assumption | (refine Nat.le_of_lt ?_; omega) | omega))))) HJ.out)))
        refine wpQuiet_nil ?_
        rintro _ ⟨zz, rfl⟩
        have hSx := hSx.toExt (⟨zz, rfl⟩ : ∃ y, ext wr zz = ext wr y)
        have hSy := hSy.toExt (⟨zz, rfl⟩ : ∃ y, ext wr zz = ext wr y)
        have hq1 : ∃ y, ext wr zz = ext W y := trans_ext hq ⟨zz, rfl⟩
        go_wp2_with (first
          | (at_builtin; refine wpList_app1 (E := sI) (d := (k : Int)) rfl _ _ _ rfl tI rfl rfl rfl (by simp) (fun _ => ⟨rfl, rfl⟩) rfl (by simp [Value.oneCell']) hSx hlx (by omega) ?_; intro v5 w5 F5 hS5 hC5 hF5; have hSy5 := hSy.chg hC5 (fun b hb h => (HFx.out b h).2 hb))
          | (at_builtin; refine wpList_app1 (E := sI) (d := j) rfl _ _ _ rfl tI rfl rfl rfl (by simp) (fun _ => ⟨rfl, rfl⟩) rfl (by simp [Value.oneCell']) hSy5 hly (by omega) ?_; intro v6 w6 F6 hS6 hC6 hF6))
        have hn5 : ∀ b ∈ F5, b ∉ Fy := fun b hb h => by
          rcases hF5 b hb with k | k
          · exact (HFx.out b k).2 h
          · have := hSy.lt b h; omega
        have hq5 := hC5.isExt hq1 (fun b hb => (HFx.out b hb).1)
        have hz5 := hC5.size
        refine ⟨⟨k + 1, F5, F6, by go_num, by omega, by rw [HEX.out]; exact hS5.chg hC6 hn5, by rw [HEY.out]; exact hS6, Lib.hid (fun b hb => ⟨?_, fun h => ?_⟩), Lib.hid (fun b hb => ?_), hC6.isExt hq5 HFy.out⟩, by simp [intOf]; omega⟩
        · rcases hF5 b hb with k | k
          · exact (HFx.out b k).1
          · have := size_of_ext hq1; omega
        · rcases hF6 b h with k | k
          · exact hn5 b hb k
          · have := hS5.lt b hb; omega
        · rcases hF6 b hb with k | k
          · exact HFy.out b k
          · have := size_of_ext hq5; omega
      · have hj0 : j = -1 := by rw [← hj]; exact iof_none hm
        have HEX := Lib.hid (HNX.out hm)
        have HEY := Lib.hid (HNY.out hm)
        subst hj0
        clear hj hm
        go_wp2_with fail
        refine wp_region_ext (by kernel_rfl) (by kernel_rfl) ?_
        repeat (go_big_quiet_step ((go_at_call 125; exact quietEj (l7Find_any (by omega) (h2r.toExt (by refine Chg.isExt (F := []) ?_ (refl_ext _) (by simp); repeat (with_reducible (first | exact Chg.refl _ _ | exact Nat.le_refl _ | exact Chg.ofExt (by assumption) | refine Chg.trans0 ?_ (by assumption) | refine Chg.extS ?_ _ | refine Chg.alloc ?_ _ | refine Chg.drew ?_ | refine Chg.setCellE ?_ ?_ _ | refine le_addk ?_ _ | refine le_ext ?_ | refine le_alloc ?_ _ | refine le_setC ?_ _ _ | refine le_drew ?_ | assumption | (refine Nat.le_of_lt ?_; omega) | omega))))) HJ.out)))
        refine wpQuiet_nil ?_
        rintro _ ⟨zz, rfl⟩
        have hSx := hSx.toExt (⟨zz, rfl⟩ : ∃ y, ext wr zz = ext wr y)
        have hSy := hSy.toExt (⟨zz, rfl⟩ : ∃ y, ext wr zz = ext wr y)
        go_wp2
        exact ⟨⟨k + 1, Fx, Fy, by go_num, by omega, by rw [HEX.out]; exact hSx, by rw [HEY.out]; exact hSy, HFx, HFy, trans_ext hq ⟨zz, rfl⟩⟩, by simp [intOf]; omega⟩
    · obtain rfl : k = va.length := by omega
      obtain ⟨Ax, cx, rfl, _, _, rx⟩ := hSx.view sI_v
      obtain ⟨Ay, cy, rfl, _, _, ry⟩ := hSy.view sI_v
      go_wp2
      go_ret2
      exact ⟨Ax, cx, Ay, cy, rfl, rx, ry, hw⟩
set_option maxHeartbeats 4000000 in
theorem l11Vars_any {A A' : Option Addr} {a a' : Nat} {va vb : List Int} {w : World} (hx : va.length ≤ 1000000) (h1 : RI w A va) (hy : vb.length ≤ 1000000) (h2 : RI w A' vb) :
    Calls Try.prog 124 #[.slice A va.length a, .slice A' vb.length a'] w fun e w' => ∃ v F, e = .returned v ∧ (∃ y, w' = ext w y) ∧ SV 3 1 sI w' v (allV va vb) F ∧ ∀ b ∈ F, w.heap.size ≤ b := by
  have hS0 := SV.empty (α := Int) (te := 3) (size := 1) (E := sI) w
  go_enter Try.func124, Try.ntmps124
  go_wp2
  go_loopw [5, 6] (fun v i wr => ∃ (k : Nat) (out : List Int) (F : List Nat), i = .int .i64 k ∧ k ≤ 5 ∧ out.length ≤ k ∧ Hid (out ++ selF (fun v => decide (v ∈ va) || decide (v ∈ vb)) (5 - k) k = allV va vb) ∧ SV 3 1 sI wr v out F ∧ Hid (∀ b ∈ F, w.heap.size ≤ b) ∧ (∃ y, wr = ext w y)) (fun _ i _ => 5 - (intOf i).toNat)
  case atStart => exact ⟨0, [], _, rfl, by omega, by simp, Lib.hid (by simp [allV]), hS0, Lib.hid (by simp), alloc_ext _ _⟩
  case round =>
    obtain ⟨k, out, F, rfl, hk, ho, HO, hS, HF, hw⟩ := hrel
    by_cases hlt : k < 5
    · have e := HO.out
      rw [selF_step hlt] at e
      obtain ⟨i, hi⟩ : ∃ i, iof 0 (k : Int) va = i := ⟨_, rfl⟩
      obtain ⟨j, hj⟩ : ∃ j, iof 0 (k : Int) vb = j := ⟨_, rfl⟩
      have HI := Lib.hid hi
      have HJ := Lib.hid hj
      have h1r := h1.toExt hw
      have h2r := h2.toExt hw
      have hlk : out.length + 1 ≤ 2000000000 := by omega
      by_cases m1 : (k : Int) ∈ va
      · have hi0 : 0 ≤ i := by rw [← hi]; exact (iof_nonneg 0 va).2 m1
        rw [if_pos (by simp [m1])] at e
        have He := Lib.hid e
        clear e hi hj m1
        go_wp2_with (first
          | (go_at_call 125; refine (l7Find_any (xs := va) (by omega) h1r).mono ?_; rintro e w1 ⟨rfl, hx1⟩; rw [HI.out])
          | (at_builtin; refine wpList_app1 (E := sI) (d := (k : Int)) rfl _ _ _ rfl tI rfl rfl rfl (by simp) (fun _ => ⟨rfl, rfl⟩) rfl (by simp [Value.oneCell']) (hS.toExt hx1) hlk (by omega) ?_; intro v5 w5 F5 hS5 hC5 hF5))
        exact ⟨⟨k + 1, out ++ [(k : Int)], F5, by go_num, by omega, by simp; omega, Lib.hid (by simpa using He.out), hS5, Lib.hid (newer HF.out (size_of_ext (trans_ext hw hx1)) hF5), hC5.isExt (trans_ext hw hx1) HF.out⟩, by simp [intOf]; omega⟩
      · have hi0 : i = -1 := by rw [← hi]; exact iof_none m1
        subst hi0
        by_cases m2 : (k : Int) ∈ vb
        · have hj0 : 0 ≤ j := by rw [← hj]; exact (iof_nonneg 0 vb).2 m2
          rw [if_pos (by simp [m2])] at e
          have He := Lib.hid e
          clear e hi hj m1 m2
          go_wp2_with (first
            | (go_at_call 125; with_reducible refine (l7Find_any (xs := va) (by omega) h1r).mono ?_; rintro e w1 ⟨rfl, hx1⟩; rw [HI.out])
            | (go_at_call 125; with_reducible refine (l7Find_any (xs := vb) (by omega) (h2r.toExt hx1)).mono ?_; rintro e w2 ⟨rfl, hx2⟩; rw [HJ.out])
            | (at_builtin; refine wpList_app1 (E := sI) (d := (k : Int)) rfl _ _ _ rfl tI rfl rfl rfl (by simp) (fun _ => ⟨rfl, rfl⟩) rfl (by simp [Value.oneCell']) ((hS.toExt hx1).toExt hx2) hlk (by omega) ?_; intro v5 w5 F5 hS5 hC5 hF5))
          have hw2 := trans_ext (trans_ext hw hx1) hx2
          exact ⟨⟨k + 1, out ++ [(k : Int)], F5, by go_num, by omega, by simp; omega, Lib.hid (by simpa using He.out), hS5, Lib.hid (newer HF.out (size_of_ext hw2) hF5), hC5.isExt hw2 HF.out⟩, by simp [intOf]; omega⟩
        · have hj0 : j = -1 := by rw [← hj]; exact iof_none m2
          subst hj0
          rw [if_neg (by simp [m1, m2])] at e
          have He := Lib.hid e
          clear e hi hj m1 m2
          go_wp2_with (first
            | (go_at_call 125; with_reducible refine (l7Find_any (xs := va) (by omega) h1r).mono ?_; rintro e w1 ⟨rfl, hx1⟩; rw [HI.out])
            | (go_at_call 125; with_reducible refine (l7Find_any (xs := vb) (by omega) (h2r.toExt hx1)).mono ?_; rintro e w2 ⟨rfl, hx2⟩; rw [HJ.out]))
          exact ⟨⟨k + 1, out, F, by go_num, by omega, by omega, Lib.hid He.out, (hS.toExt hx1).toExt hx2, HF, trans_ext (trans_ext hw hx1) hx2⟩, by simp [intOf]; omega⟩
    · obtain rfl : k = 5 := by omega
      have HE := Lib.hid (show out = allV va vb by rw [← HO.out]; simp [selF])
      go_wp2
      go_ret
      exact ⟨_, F, rfl, hw, by rw [← HE.out]; exact hS, HF.out⟩
end Go.Proofs.Ytfigcfajkilhiaa
