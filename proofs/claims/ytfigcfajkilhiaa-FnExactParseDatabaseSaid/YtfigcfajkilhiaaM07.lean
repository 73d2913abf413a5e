/- Contracts of functions that the statements reach, joined from several texts: ValidQ, Strs, JoinT, FmtQ, Near, BindPl, QFor, QOkPl, AppP, NewRel2, Walk8, AtomPl, Proj, Glue. -/
import Derived.Test.YtfigcfajkilhiaaM01
import Derived.Test.YtfigcfajkilhiaaM02
import Derived.Test.YtfigcfajkilhiaaRows
import Derived.Deep.RegionLaw
import Derived.Test.YtfigcfajkilhiaaM03
import Derived.Test.YtfigcfajkilhiaaM06
import Derived.Test.YtfigcfajkilhiaaM04
import Derived.Test.YtfigcfajkilhiaaM05
/- Whether a query is valid; the program's way and the reference's. -/
namespace Go.Proofs.Ytfigcfajkilhiaa
open Go.RowKit

def atomB (n : Int) (x : At) : Bool := nameB x.1 && inB x.2.length 1 5 && x.2.all fun v => inB v 0 (n - 1)
def seen (ats : List At) : List Int := ats.flatMap (·.2)
def mkU (n : Nat) (s : List Int) : List Bool := (List.range n).map fun (v : Nat) => decide ((v : Int) ∈ s)
def coverB (n : Int) (ats : List At) : Bool := (mkU n.toNat (seen ats)).all id
def vqB (d : Qd) : Bool := inB d.1 1 5 && inB d.2.1.length 1 4 && setB d.1 [] d.2.2 && d.2.1.all (atomB d.1) && coverB d.1 d.2.1
@[simp] theorem mkU_length (n : Nat) (s : List Int) : (mkU n s).length = n := by simp [mkU]
theorem mkU_nil (n : Nat) : mkU n [] = List.replicate n false := by
  unfold mkU
  apply List.ext_getElem
  · simp
  · intro i h1 h2
    simp
theorem mkU_set {n : Nat} {s : List Int} {v : Int} (h0 : 0 ≤ v) : (mkU n s).set v.toNat true = mkU n (s ++ [v]) := by
  apply List.ext_getElem
  · simp
  · intro i h1 h2
    rw [List.getElem_set]
    unfold mkU
    simp only [List.getElem_map, List.getElem_range, List.mem_append, List.mem_singleton]
    split
    · rename_i h
      subst h
      simp
      right; omega
    · rename_i h
      have : ¬ ((i : Int) = v) := by rintro rfl; exact h (by simp)
      simp [this]
theorem seen_take {ats : List At} {k : Nat} (h : k < ats.length) : seen (ats.take (k + 1)) = seen (ats.take k) ++ ats[k].2 := by
  unfold seen
  rw [List.take_succ_eq_append_getElem h, List.flatMap_append]
  simp
theorem allA_step {α : Type} {p : α → Bool} {xs : List α} {k : Nat} (h : k < xs.length) : (xs.drop k).all p = (p xs[k] && (xs.drop (k + 1)).all p) := by
  rw [List.drop_eq_getElem_cons h, List.all_cons]
theorem allA_end {α : Type} {p : α → Bool} {xs : List α} {k : Nat} (h : ¬ k < xs.length) : (xs.drop k).all p = true := by
  rw [List.drop_eq_nil_of_le (by omega)]; rfl
theorem tB : SlT Try.prog 180 4 1 1 (.bool false) := ⟨Try.underlying180, by kernel_rfl, rfl, by omega⟩
set_option maxRecDepth 4000 in
set_option maxHeartbeats 4000000 in
theorem IsValidQuery_w {A B : Option Addr} {c e1 : Nat} {d : Qd} {w : World} (hb : WQ d) (h : vQ w [.int .i64 d.1, .slice A d.2.1.length c, .slice B d.2.2.length e1] d) :
    Calls Try.prog 156 #[.agg #[.int .i64 d.1, .slice A d.2.1.length c, .slice B d.2.2.length e1]] w fun e w' => e = .returned (.bool (vqB d)) ∧ ∃ y, w' = ext w y := by
  obtain ⟨r1, r2, hcap⟩ := vQ_get h
  obtain ⟨hz, b1, b2⟩ := hb
  obtain ⟨z, ats, out⟩ := d
  dsimp only at r1 r2 hcap hz b1 b2 ⊢
  have r1 := (vAts_get r1).2
  have m2 : out.length ≤ 1000000000 := by omega
  have b4 := b1.1
  have Hx := Lib.hid b1.2
  clear h b1
  obtain ⟨t1, ht1⟩ : ∃ t, inB z 1 5 = t := ⟨_, rfl⟩
  obtain ⟨t2, ht2⟩ : ∃ t, inB ats.length 1 4 = t := ⟨_, rfl⟩
  obtain ⟨t3, ht3⟩ : ∃ t, setB z [] out = t := ⟨_, rfl⟩
  have N1 := Lib.hid ht1
  have N2 := Lib.hid ht2
  have N3 := Lib.hid ht3
  have HE := Lib.hid (show vqB (z, ats, out) = (t1 && t2 && t3 && ats.all (atomB z) && coverB z ats) by unfold vqB; rw [ht1, ht2, ht3])
  clear ht1 ht2 ht3
  cases t1 with
  | false =>
    go_enter Try.func156, Try.ntmps156
    go_wp2_with (go_at_call 121; refine (within_any _ _ _ _).mono ?_; rintro e w' ⟨rfl, rfl⟩; (first | rw [N1.out] | rw [N2.out]))
    go_ret
    exact ⟨by rw [HE.out]; rfl, (by refine Chg.isExt (F := []) ?_ (refl_ext _) (by simp); repeat (with_reducible (first | exact Chg.refl _ _ | exact Nat.le_refl _ | exact Chg.ofExt (by assumption) | refine Chg.trans0 ?_ (by assumption) | refine Chg.extS ?_ _ | refine Chg.alloc ?_ _ | refine Chg.drew ?_ | refine Chg.setCellE ?_ ?_ _ | refine le_addk ?_ _ | refine le_ext ?_ | refine le_alloc ?_ _ | refine le_setC ?_ _ _ | refine le_drew ?_ | assumption | (refine Nat.le_of_lt ?_; omega) | omega)))⟩
  | true =>
    have hn := inB_t N1.out
    obtain ⟨n, rfl⟩ : ∃ n : Nat, z = n := ⟨z.toNat, by omega⟩
    have hn1 : n ≤ 5 := by omega
    have hn2 : 1 ≤ n := by omega
    clear hn hz
    cases t2 with
    | false =>
      go_enter Try.func156, Try.ntmps156
      go_wp2_with (go_at_call 121; refine (within_any _ _ _ _).mono ?_; rintro e w' ⟨rfl, rfl⟩; (first | rw [N1.out] | rw [N2.out]))
      go_ret
      exact ⟨by rw [HE.out]; rfl, (by refine Chg.isExt (F := []) ?_ (refl_ext _) (by simp); repeat (with_reducible (first | exact Chg.refl _ _ | exact Nat.le_refl _ | exact Chg.ofExt (by assumption) | refine Chg.trans0 ?_ (by assumption) | refine Chg.extS ?_ _ | refine Chg.alloc ?_ _ | refine Chg.drew ?_ | refine Chg.setCellE ?_ ?_ _ | refine le_addk ?_ _ | refine le_ext ?_ | refine le_alloc ?_ _ | refine le_setC ?_ _ _ | refine le_drew ?_ | assumption | (refine Nat.le_of_lt ?_; omega) | omega)))⟩
    | true =>
      cases t3 with
      | false =>
        go_enter Try.func156, Try.ntmps156
        go_wp2_with (first
          | (go_at_call 121; refine (within_any _ _ _ _).mono ?_; rintro e w' ⟨rfl, rfl⟩; (first | rw [N1.out] | rw [N2.out]))
          | (go_at_call 188; refine (isSetOf_any m2 hcap (r2.toExt (by refine Chg.isExt (F := []) ?_ (refl_ext _) (by simp); repeat (with_reducible (first | exact Chg.refl _ _ | exact Nat.le_refl _ | exact Chg.ofExt (by assumption) | refine Chg.trans0 ?_ (by assumption) | refine Chg.extS ?_ _ | refine Chg.alloc ?_ _ | refine Chg.drew ?_ | refine Chg.setCellE ?_ ?_ _ | refine le_addk ?_ _ | refine le_ext ?_ | refine le_alloc ?_ _ | refine le_setC ?_ _ _ | refine le_drew ?_ | assumption | (refine Nat.le_of_lt ?_; omega) | omega)))) (by omega) (by omega)).mono ?_; rintro e w1 ⟨rfl, y1, rfl⟩; rw [N3.out]))
        go_ret
        exact ⟨by rw [HE.out]; rfl, (by refine Chg.isExt (F := []) ?_ (refl_ext _) (by simp); repeat (with_reducible (first | exact Chg.refl _ _ | exact Nat.le_refl _ | exact Chg.ofExt (by assumption) | refine Chg.trans0 ?_ (by assumption) | refine Chg.extS ?_ _ | refine Chg.alloc ?_ _ | refine Chg.drew ?_ | refine Chg.setCellE ?_ ?_ _ | refine le_addk ?_ _ | refine le_ext ?_ | refine le_alloc ?_ _ | refine le_setC ?_ _ _ | refine le_drew ?_ | assumption | (refine Nat.le_of_lt ?_; omega) | omega)))⟩
      | true =>
        have HF := Lib.hid (show ats.all (atomB n) = false → vqB ((n : Int), ats, out) = false by rw [HE.out]; intro h; rw [h]; rfl)
        have HT := Lib.hid (show ats.all (atomB n) = true → vqB ((n : Int), ats, out) = (mkU n (seen ats)).all id by rw [HE.out]; intro h; rw [h]; rfl)
        have HU0 := Lib.hid (mkU_nil n)
        go_enter Try.func156, Try.ntmps156
        go_wp2_with (first
          | (go_at_call 121; refine (within_any _ _ _ _).mono ?_; rintro e w' ⟨rfl, rfl⟩; (first | rw [N1.out] | rw [N2.out]))
          | (go_at_call 188; refine (isSetOf_any m2 hcap (r2.toExt (by refine Chg.isExt (F := []) ?_ (refl_ext _) (by simp); repeat (with_reducible (first | exact Chg.refl _ _ | exact Nat.le_refl _ | exact Chg.ofExt (by assumption) | refine Chg.trans0 ?_ (by assumption) | refine Chg.extS ?_ _ | refine Chg.alloc ?_ _ | refine Chg.drew ?_ | refine Chg.setCellE ?_ ?_ _ | refine le_addk ?_ _ | refine le_ext ?_ | refine le_alloc ?_ _ | refine le_setC ?_ _ _ | refine le_drew ?_ | assumption | (refine Nat.le_of_lt ?_; omega) | omega)))) (by omega) (by omega)).mono ?_; rintro e w1 ⟨rfl, hx1⟩; rw [N3.out]; have P1 := (BoxAt.new w #[.int .i64 (n : Int), .slice A ats.length c, .slice B out.length e1] 55).toExt hx1; obtain ⟨l1, a1, a1', a1'', f1⟩ := box3 P1)
          | (at_make; refine wpList_makeS (E := sB) (d := false) (n := n) _ rfl _ _ _ rfl tB rfl rfl (fun _ => ⟨rfl, rfl⟩) (by omega) (by omega) ?_; intro w2 hS hx2 hg2; have P2 := P1.toExt hx2; obtain ⟨l2, a2, a2', a2'', f2⟩ := box3 P2))
        have hg1 := size_of_ext hx1
        simp only [World.size_alloc] at hg1
        rw [← HU0.out] at hS
        go_loopw [35] (fun i wr => ∃ k : Nat, i = .int .i64 k ∧ k ≤ ats.length ∧ SV 4 1 sB wr (.slice (some ⟨w1.heap.size, 0, none⟩) n n) (mkU n (seen (ats.take k))) [w1.heap.size] ∧ (∃ y, wr = ext w y) ∧ (ats.drop k).all (atomB n) = ats.all (atomB n)) (fun i _ => ats.length - (intOf i).toNat)
        case atStart => exact ⟨0, rfl, by omega, by simpa [seen] using hS, (by refine Chg.isExt (F := []) ?_ (refl_ext _) (by simp); repeat (with_reducible (first | exact Chg.refl _ _ | exact Nat.le_refl _ | exact Chg.ofExt (by assumption) | refine Chg.trans0 ?_ (by assumption) | refine Chg.extS ?_ _ | refine Chg.alloc ?_ _ | refine Chg.drew ?_ | refine Chg.setCellE ?_ ?_ _ | refine le_addk ?_ _ | refine le_ext ?_ | refine le_alloc ?_ _ | refine le_setC ?_ _ _ | refine le_drew ?_ | assumption | (refine Nat.le_of_lt ?_; omega) | omega))), by simp⟩
        case round =>
          obtain ⟨k, rfl, hk, hS, hy, hj⟩ := hrel
          have Hj := Lib.hid hj
          clear hj
          by_cases hlt : k < ats.length
          · obtain ⟨b, o, A', c', rfl, hb0, hc0, hd0, hv0⟩ := r1.atA hlt
            have hb : b < wr.heap.size := Nat.lt_of_lt_of_le hb0 (size_of_ext hy)
            have hc : wr.cell? ⟨b, o + k * 2, none⟩ = some (.string ats[k].1) := by obtain ⟨y, e⟩ := hy; rw [e, cell_ext hb0]; exact hc0
            have hd : wr.cell? ⟨b, o + k * 2 + 1, none⟩ = some (.slice A' ats[k].2.length c') := by obtain ⟨y, e⟩ := hy; rw [e, cell_ext hb0]; exact hd0
            clear hc0 hd0
            have hle := Hx.out ats[k] (List.getElem_mem hlt)
            obtain ⟨x1, x2⟩ := hle
            have x3 : ats[k].1.size ≤ 1000000000 := by omega
            have e := Hj.out
            rw [allA_step hlt] at e
            have HS := Lib.hid hS
            have Hst := Lib.hid (seen_take hlt)
            obtain ⟨s, hs⟩ : ∃ s, ats[k].1 = s := ⟨_, rfl⟩
            obtain ⟨xs, hxs⟩ : ∃ xs, ats[k].2 = xs := ⟨_, rfl⟩
            have ea : atomB n ats[k] = (nameB s && inB xs.length 1 5 && xs.all fun v => inB v 0 ((n : Int) - 1)) := by unfold atomB; rw [hs, hxs]
            rw [ea] at e
            have Hst : Hid (seen (ats.take (k + 1)) = seen (ats.take k) ++ xs) := Lib.hid (by rw [Hst.out, hxs])
            rw [hs] at hc x3
            rw [hxs] at hd hv0 x2
            obtain ⟨t4, ht4⟩ : ∃ t, nameB s = t := ⟨_, rfl⟩
            obtain ⟨t5, ht5⟩ : ∃ t, inB xs.length 1 5 = t := ⟨_, rfl⟩
            rw [ht4, ht5] at e
            have N4 := Lib.hid ht4
            have N5 := Lib.hid ht5
            have He := Lib.hid e
            clear e ea hs hxs ht4 ht5 hS x1
            cases t4 with
            | false =>
              go_wp2_with (go_at_call 144; refine (IsValidName_any x3).mono ?_; rintro e w' ⟨rfl, rfl⟩; rw [N4.out])
              go_ret
              exact ⟨by rw [HF.out He.out.symm]; rfl, (by refine Chg.isExt (F := []) ?_ (refl_ext _) (by simp); repeat (with_reducible (first | exact Chg.refl _ _ | exact Nat.le_refl _ | exact Chg.ofExt (by assumption) | refine Chg.trans0 ?_ (by assumption) | refine Chg.extS ?_ _ | refine Chg.alloc ?_ _ | refine Chg.drew ?_ | refine Chg.setCellE ?_ ?_ _ | refine le_addk ?_ _ | refine le_ext ?_ | refine le_alloc ?_ _ | refine le_setC ?_ _ _ | refine le_drew ?_ | assumption | (refine Nat.le_of_lt ?_; omega) | omega)))⟩
            | true =>
              cases t5 with
              | false =>
                go_wp2_with (first
                  | (go_at_call 144; refine (IsValidName_any x3).mono ?_; rintro e w' ⟨rfl, rfl⟩; rw [N4.out])
                  | (go_at_call 121; refine (within_any _ _ _ _).mono ?_; rintro e w' ⟨rfl, rfl⟩; rw [N5.out]))
                go_ret
                exact ⟨by rw [HF.out He.out.symm]; rfl, (by refine Chg.isExt (F := []) ?_ (refl_ext _) (by simp); repeat (with_reducible (first | exact Chg.refl _ _ | exact Nat.le_refl _ | exact Chg.ofExt (by assumption) | refine Chg.trans0 ?_ (by assumption) | refine Chg.extS ?_ _ | refine Chg.alloc ?_ _ | refine Chg.drew ?_ | refine Chg.setCellE ?_ ?_ _ | refine le_addk ?_ _ | refine le_ext ?_ | refine le_alloc ?_ _ | refine le_setC ?_ _ _ | refine le_drew ?_ | assumption | (refine Nat.le_of_lt ?_; omega) | omega)))⟩
              | true =>
                go_wp2_with (first
                  | (go_at_call 144; refine (IsValidName_any x3).mono ?_; rintro e w' ⟨rfl, rfl⟩; rw [N4.out])
                  | (go_at_call 121; refine (within_any _ _ _ _).mono ?_; rintro e w' ⟨rfl, rfl⟩; rw [N5.out]))
                have hyw : ∃ y, wr.alloc (.cells #[.string s, .slice A' xs.length c'] 81) = ext wr y := alloc_ext _ _
                go_loopw [53] (fun i vs => ∃ j : Nat, i = .int .i64 j ∧ j ≤ xs.length ∧ SV 4 1 sB vs (.slice (some ⟨w1.heap.size, 0, none⟩) n n) (mkU n (seen (ats.take k) ++ xs.take j)) [w1.heap.size] ∧ (∃ y, vs = ext w y) ∧ (xs.drop j).all (fun v => inB v 0 ((n : Int) - 1)) = xs.all fun v => inB v 0 ((n : Int) - 1)) (fun i _ => xs.length - (intOf i).toNat)
                case atStart => exact ⟨0, rfl, by omega, by simpa using HS.out.toExt hyw, (by refine Chg.isExt (F := []) ?_ (refl_ext _) (by simp); repeat (with_reducible (first | exact Chg.refl _ _ | exact Nat.le_refl _ | exact Chg.ofExt (by assumption) | refine Chg.trans0 ?_ (by assumption) | refine Chg.extS ?_ _ | refine Chg.alloc ?_ _ | refine Chg.drew ?_ | refine Chg.setCellE ?_ ?_ _ | refine le_addk ?_ _ | refine le_ext ?_ | refine le_alloc ?_ _ | refine le_setC ?_ _ _ | refine le_drew ?_ | assumption | (refine Nat.le_of_lt ?_; omega) | omega))), by simp⟩
                case round =>
                  obtain ⟨j, rfl, hj1, hS2, hy2, hj⟩ := hrel
                  have Hj2 := Lib.hid hj
                  have HS2 := Lib.hid hS2
                  clear hj
                  by_cases hlt2 : j < xs.length
                  · obtain ⟨b3, o3, rfl, hb3, hc3⟩ := (hv0.toExt hy2).atI hlt2
                    have e := Hj2.out
                    rw [allA_step hlt2] at e
                    obtain ⟨v, hvv⟩ : ∃ v, xs[j] = v := ⟨_, rfl⟩
                    have Hv := Lib.hid hvv
                    rw [hvv] at e hc3
                    obtain ⟨t6, ht6⟩ : ∃ t, inB v 0 ((n : Int) - 1) = t := ⟨_, rfl⟩
                    rw [ht6] at e
                    have N6 := Lib.hid ht6
                    have He2 := Lib.hid e
                    clear e hvv ht6
                    cases t6 with
                    | false =>
                      have HB := Lib.hid (show ats.all (atomB n) = false by rw [← He.out, ← He2.out]; rfl)
                      clear hS2
                      go_wp2_with (go_at_call 121; refine (within_any _ _ _ _).mono ?_; rintro e w' ⟨rfl, rfl⟩; rw [N6.out])
                      go_ret
                      exact ⟨by rw [HF.out HB.out]; rfl, hy2⟩
                    | true =>
                      have hvb := inB_t N6.out
                      obtain ⟨v0, v1⟩ := hvb
                      have v2 : v < (n : Int) := by omega
                      obtain ⟨⟨u, hu⟩, hf, hg⟩ := hS2.cell (by simp) (j := v.toNat) (by omega)
                      have Hset := Lib.hid (show (mkU n (seen (ats.take k) ++ xs.take j)).set v.toNat true = mkU n (seen (ats.take k) ++ xs.take (j + 1)) by
                        rw [mkU_set v0, List.take_succ_eq_append_getElem hlt2, Hv.out, List.append_assoc])
                      clear hS2
                      go_wp2_with (go_at_call 121; refine (within_any _ _ _ _).mono ?_; rintro e w' ⟨rfl, rfl⟩; rw [N6.out])
                      obtain ⟨h3, h4⟩ := HS2.out.set1 (by simp) (k := v.toNat) (by omega) (u := .bool true) (d := true) (fun _ => ⟨rfl, rfl⟩)
                      rw [Hset.out] at h3
                      exact ⟨⟨j + 1, by go_num, by omega, h3, h4.isExt hy2 (by simpa using by omega), by simpa using He2.out⟩, by simp [intOf]; omega⟩
                  · have e := Hj2.out
                    rw [allA_end hlt2] at e
                    have e2 := He.out
                    rw [← e] at e2
                    have He2 := Lib.hid e2
                    rw [show xs.take j = xs from List.take_of_length_le (by omega), ← Hst.out] at hS2
                    clear e e2
                    go_wp2
                    exact ⟨⟨k + 1, by go_num, by omega, hS2, hy2, by simpa using He2.out⟩, by simp [intOf]; omega⟩
          · have e := Hj.out
            rw [allA_end hlt] at e
            have HE2 := Lib.hid (HT.out e.symm)
            rw [List.take_of_length_le (by omega)] at hS
            have hV := hS.toView sB_v
            clear e
            go_wp2
            clear hlt Hj
            go_loopw [69] (fun i ws => ∃ k : Nat, i = .int .i64 k ∧ k ≤ n ∧ ((mkU n (seen ats)).drop k).all id = (mkU n (seen ats)).all id ∧ ∃ y, ws = ext wr y) (fun i _ => n - (intOf i).toNat)
            case atStart => exact ⟨0, rfl, by omega, by simp, refl_ext _⟩
            case round =>
              obtain ⟨k, rfl, hk, hj, hy3⟩ := hrel
              have Hj := Lib.hid hj
              clear hj
              by_cases hlt : k < n
              · have hlt2 : k < (mkU n (seen ats)).length := by simpa using hlt
                obtain ⟨b3, o3, hA3, hb3, hc3⟩ := (hV.toExt hy3).atB hlt2
                injection hA3 with hA3
                injection hA3 with e1 e2
                subst e1 e2
                have e := Hj.out
                rw [allA_step hlt2] at e
                obtain ⟨t, ht⟩ : ∃ t, (mkU n (seen ats))[k] = t := ⟨_, rfl⟩
                rw [ht] at e hc3
                rw [Nat.zero_add] at hc3
                have He := Lib.hid e
                clear e ht
                cases t with
                | true =>
                  go_wp2
                  exact ⟨⟨k + 1, by go_num, by omega, by simpa using He.out, hy3⟩, by simp [intOf]; omega⟩
                | false =>
                  go_wp2
                  go_ret
                  exact ⟨by rw [HE2.out, ← He.out]; rfl, trans_ext hy hy3⟩
              · have e := Hj.out
                rw [allA_end (by simpa using hlt)] at e
                have He := Lib.hid e
                clear e
                go_wp2
                go_ret
                exact ⟨by rw [HE2.out, ← He.out]; rfl, trans_ext hy hy3⟩
theorem IsValidQuery_any {A B : Option Addr} {c e1 : Nat} {d : Qd} {w : World} (hb : BQ d) (h : vQ w [.int .i64 d.1, .slice A d.2.1.length c, .slice B d.2.2.length e1] d) :
    Calls Try.prog 156 #[.agg #[.int .i64 d.1, .slice A d.2.1.length c, .slice B d.2.2.length e1]] w fun e w' => e = .returned (.bool (vqB d)) ∧ ∃ y, w' = ext w y := IsValidQuery_w hb.w h
theorem quietEi' {P : Program} {f : FuncId} {args : Array Value} {w y : World} {m n : Int}
    (h : Calls P f args (ext w y) fun e w' => e = .returned (.int .i64 m) ∧ ∃ z, w' = ext (ext w y) z) (hc : m = n) : Calls P f args (ext w y) fun e w' => e = .returned (.int .i64 n) ∧ ∃ z, w' = ext w z := by
  subst hc; exact quietE h
theorem l7Find_n {A : Option Addr} {c m : Nat} {xs : List Int} {n : Int} {w : World} (hm : xs.length = m) (hx : m ≤ 1000000000) (h1 : RI w A xs) :
    Calls Try.prog 125 #[.slice A m c, .int .i64 n] w fun e w' => e = .returned (.int .i64 (iof 0 n xs)) ∧ ∃ y, w' = ext w y := by
  subst hm
  exact l7Find_any hx h1
set_option maxRecDepth 100000 in
set_option maxHeartbeats 8000000 in
theorem specIsValidQuery_w {A B : Option Addr} {c e1 : Nat} {d : Qd} {w : World} (hb : WQ d) (h : vQ w [.int .i64 d.1, .slice A d.2.1.length c, .slice B d.2.2.length e1] d) :
    Calls Try.prog 157 #[.agg #[.int .i64 d.1, .slice A d.2.1.length c, .slice B d.2.2.length e1]] w fun e w' => e = .returned (.bool (vqB d)) ∧ ∃ y, w' = ext w y := by
  obtain ⟨r1, r2, hcap⟩ := vQ_get h
  obtain ⟨hz, b1, b2⟩ := hb
  obtain ⟨z, ats, out⟩ := d
  dsimp only at r1 r2 hcap hz b1 b2 ⊢
  have r1 := (vAts_get r1).2
  have m2 : out.length ≤ 1000000000 := by omega
  have b4 := b1.1
  have Hx := Lib.hid b1.2
  clear h b1
  obtain ⟨t1, ht1⟩ : ∃ t, inB z 1 5 = t := ⟨_, rfl⟩
  obtain ⟨t2, ht2⟩ : ∃ t, inB ats.length 1 4 = t := ⟨_, rfl⟩
  have N1 := Lib.hid ht1
  have N2 := Lib.hid ht2
  have HE := Lib.hid (show vqB (z, ats, out) = (t1 && t2 && setB z [] out && ats.all (atomB z) && coverB z ats) by unfold vqB; rw [ht1, ht2])
  clear ht1 ht2
  cases t1 with
  | false =>
    go_enter Try.func157, Try.ntmps157
    go_wp2_with (go_at_call 123; refine (l1In_any _ _ _ _).mono ?_; rintro e w' ⟨rfl, rfl⟩; (first | rw [N1.out] | rw [N2.out]))
    go_ret
    exact ⟨by rw [HE.out]; rfl, (by refine Chg.isExt (F := []) ?_ (refl_ext _) (by simp); repeat (with_reducible (first | exact Chg.refl _ _ | exact Nat.le_refl _ | exact Chg.ofExt (by assumption) | refine Chg.trans0 ?_ (by assumption) | refine Chg.extS ?_ _ | refine Chg.alloc ?_ _ | refine Chg.drew ?_ | refine Chg.setCellE ?_ ?_ _ | refine le_addk ?_ _ | refine le_ext ?_ | refine le_alloc ?_ _ | refine le_setC ?_ _ _ | refine le_drew ?_ | assumption | (refine Nat.le_of_lt ?_; omega) | omega)))⟩
  | true =>
    have hn := inB_t N1.out
    obtain ⟨n, rfl⟩ : ∃ n : Nat, z = n := ⟨z.toNat, by omega⟩
    have hn1 : n ≤ 5 := by omega
    have hn2 : 1 ≤ n := by omega
    clear hn hz
    cases t2 with
    | false =>
      go_enter Try.func157, Try.ntmps157
      go_wp2_with (go_at_call 123; refine (l1In_any _ _ _ _).mono ?_; rintro e w' ⟨rfl, rfl⟩; (first | rw [N1.out] | rw [N2.out]))
      go_ret
      exact ⟨by rw [HE.out]; rfl, (by refine Chg.isExt (F := []) ?_ (refl_ext _) (by simp); repeat (with_reducible (first | exact Chg.refl _ _ | exact Nat.le_refl _ | exact Chg.ofExt (by assumption) | refine Chg.trans0 ?_ (by assumption) | refine Chg.extS ?_ _ | refine Chg.alloc ?_ _ | refine Chg.drew ?_ | refine Chg.setCellE ?_ ?_ _ | refine le_addk ?_ _ | refine le_ext ?_ | refine le_alloc ?_ _ | refine le_setC ?_ _ _ | refine le_drew ?_ | assumption | (refine Nat.le_of_lt ?_; omega) | omega)))⟩
    | true =>
      by_cases hbig : n < out.length
      · have HF := Lib.hid (show vqB ((n : Int), ats, out) = false by
          rw [HE.out]
          cases hs : setB n [] out with
          | false => rfl
          | true => have := setB_len hs (by omega); omega)
        go_enter Try.func157, Try.ntmps157
        go_wp2_with (go_at_call 123; refine (l1In_any _ _ _ _).mono ?_; rintro e w' ⟨rfl, rfl⟩; (first | rw [N1.out] | rw [N2.out]))
        go_ret
        exact ⟨by rw [HF.out]; rfl, (by refine Chg.isExt (F := []) ?_ (refl_ext _) (by simp); repeat (with_reducible (first | exact Chg.refl _ _ | exact Nat.le_refl _ | exact Chg.ofExt (by assumption) | refine Chg.trans0 ?_ (by assumption) | refine Chg.extS ?_ _ | refine Chg.alloc ?_ _ | refine Chg.drew ?_ | refine Chg.setCellE ?_ ?_ _ | refine le_addk ?_ _ | refine le_ext ?_ | refine le_alloc ?_ _ | refine le_setC ?_ _ _ | refine le_drew ?_ | assumption | (refine Nat.le_of_lt ?_; omega) | omega)))⟩
      · have HF1 := Lib.hid (show ats.all (atomB n) = false → vqB ((n : Int), ats, out) = false by rw [HE.out]; intro h; rw [h, Bool.and_false]; rfl)
        have HF2 := Lib.hid (show (mkU n (seen ats)).all id = false → vqB ((n : Int), ats, out) = false by rw [HE.out]; intro h; rw [show coverB n ats = (mkU n (seen ats)).all id from rfl, h, Bool.and_false])
        have HT := Lib.hid (show ats.all (atomB n) = true → (mkU n (seen ats)).all id = true → vqB ((n : Int), ats, out) = setB n [] out by rw [HE.out]; intro h h2; rw [h, show coverB n ats = (mkU n (seen ats)).all id from rfl, h2]; simp)
        have hw1 : IntKind.i64.wrap ((n : Int) - 1) = (n : Int) - 1 := by rw [IntKind.wrap_i64]; omega
        go_enter Try.func157, Try.ntmps157
        go_upto_region 1 with fail
        refine wp_name ?_
        intro W hW
        have xW : ∃ y, W = ext w y := by rw [hW.out]; exact (by refine Chg.isExt (F := []) ?_ (refl_ext _) (by simp); repeat (with_reducible (first | exact Chg.refl _ _ | exact Nat.le_refl _ | exact Chg.ofExt (by assumption) | refine Chg.trans0 ?_ (by assumption) | refine Chg.extS ?_ _ | refine Chg.alloc ?_ _ | refine Chg.drew ?_ | refine Chg.setCellE ?_ ?_ _ | refine le_addk ?_ _ | refine le_ext ?_ | refine le_alloc ?_ _ | refine le_setC ?_ _ _ | refine le_drew ?_ | assumption | (refine Nat.le_of_lt ?_; omega) | omega)))
        have BW0 : BoxAt W (w.heap.size) #[.int .i64 (n : Int), .slice A ats.length c, .slice B out.length e1] := by rw [hW.out]; refine ⟨?_, fun j => ?_, fun j => ?_⟩ <;> go_simp
        obtain ⟨lW0, bW0, fW0⟩ := BW0
        have cW0_0 : W.cell? ⟨w.heap.size, 0, none⟩ = some (.int .i64 (n : Int)) := bW0 0
        have cW0_1 : W.cell? ⟨w.heap.size, 1, none⟩ = some (.slice A ats.length c) := bW0 1
        have cW0_2 : W.cell? ⟨w.heap.size, 2, none⟩ = some (.slice B out.length e1) := bW0 2
        clear hW
        go_wp2_with (go_at_call 123; refine (l1In_any _ _ _ _).mono ?_; rintro e w' ⟨rfl, rfl⟩; (first | rw [N1.out] | rw [N2.out]))
        have r1 := r1.toExt xW
        have r2 := r2.toExt xW
        go_loopw [3] (fun i wr => ∃ k : Nat, i = .int .i64 k ∧ k ≤ ats.length ∧ (∃ y, wr = ext W y) ∧ (ats.drop k).all (atomB n) = ats.all (atomB n)) (fun i _ => ats.length - (intOf i).toNat)
        case atStart => exact ⟨0, rfl, by omega, refl_ext _, by simp⟩
        case round =>
          obtain ⟨k, rfl, hk, hy, hj⟩ := hrel
          have Hj := Lib.hid hj
          clear hj
          obtain ⟨l1, a1, a1', a1'', f1⟩ := box3 (BoxAt.toExt (cs := #[_, _, _]) ⟨lW0, bW0, fW0⟩ hy)
          by_cases hlt : k < ats.length
          · obtain ⟨b, o, A', c', rfl, hb0, hc0, hd0, hv0⟩ := r1.atA hlt
            have hb : b < wr.heap.size := Nat.lt_of_lt_of_le hb0 (size_of_ext hy)
            have hc : wr.cell? ⟨b, o + k * 2, none⟩ = some (.string ats[k].1) := by obtain ⟨y, e⟩ := hy; rw [e, cell_ext hb0]; exact hc0
            have hd : wr.cell? ⟨b, o + k * 2 + 1, none⟩ = some (.slice A' ats[k].2.length c') := by obtain ⟨y, e⟩ := hy; rw [e, cell_ext hb0]; exact hd0
            have hle := Hx.out ats[k] (List.getElem_mem hlt)
            obtain ⟨x1, x2⟩ := hle
            have x3 : ats[k].1.size ≤ 1000000000 := by omega
            have e := Hj.out
            rw [allA_step hlt] at e
            obtain ⟨s, hs⟩ : ∃ s, ats[k].1 = s := ⟨_, rfl⟩
            obtain ⟨xs, hxs⟩ : ∃ xs, ats[k].2 = xs := ⟨_, rfl⟩
            have ea : atomB n ats[k] = (nameB s && inB xs.length 1 5 && xs.all fun v => inB v 0 ((n : Int) - 1)) := by unfold atomB; rw [hs, hxs]
            rw [ea] at e
            rw [hs] at hc x3
            rw [hxs] at hd hd0 hv0 x2
            obtain ⟨t4, ht4⟩ : ∃ t, nameB s = t := ⟨_, rfl⟩
            obtain ⟨t5, ht5⟩ : ∃ t, inB xs.length 1 5 = t := ⟨_, rfl⟩
            rw [ht4, ht5] at e
            have N4 := Lib.hid ht4
            have N5 := Lib.hid ht5
            have He := Lib.hid e
            have Hd0 := Lib.hid hd0
            clear e ea hs hxs ht4 ht5 x1 hc0 hd0
            cases t4 with
            | false =>
              go_wp2_with (go_at_call 143; refine (specIsValidName_any x3).mono ?_; rintro e w' ⟨rfl, rfl⟩; rw [N4.out])
              go_ret
              exact ⟨by rw [HF1.out He.out.symm]; rfl, trans_ext xW hy⟩
            | true =>
              cases t5 with
              | false =>
                go_wp2_with (first
                  | (go_at_call 143; refine (specIsValidName_any x3).mono ?_; rintro e w' ⟨rfl, rfl⟩; rw [N4.out])
                  | (go_at_call 123; refine (l1In_any _ _ _ _).mono ?_; rintro e w' ⟨rfl, rfl⟩; rw [N5.out]))
                go_ret
                exact ⟨by rw [HF1.out He.out.symm]; rfl, trans_ext xW hy⟩
              | true =>
                go_wp2_with (first
                  | (go_at_call 143; refine (specIsValidName_any x3).mono ?_; rintro e w' ⟨rfl, rfl⟩; rw [N4.out])
                  | (go_at_call 123; refine (l1In_any _ _ _ _).mono ?_; rintro e w' ⟨rfl, rfl⟩; rw [N5.out]))
                clear l1 a1 a1' a1'' f1 hb hc hd
                go_loopw [4] (fun i vs => ∃ j : Nat, i = .int .i64 j ∧ j ≤ xs.length ∧ (∃ y, vs = ext W y) ∧ (xs.drop j).all (fun v => inB v 0 ((n : Int) - 1)) = xs.all fun v => inB v 0 ((n : Int) - 1)) (fun i _ => xs.length - (intOf i).toNat)
                case atStart => exact ⟨0, rfl, by omega, hy, by simp⟩
                case round =>
                  obtain ⟨j, rfl, hj1, hy2, hj⟩ := hrel
                  have Hj2 := Lib.hid hj
                  clear hj
                  obtain ⟨l2, a2, a2', a2'', f2⟩ := box3 (BoxAt.toExt (cs := #[_, _, _]) ⟨lW0, bW0, fW0⟩ hy2)
                  have hb : b < wr.heap.size := Nat.lt_of_lt_of_le hb0 (size_of_ext hy2)
                  have hd : wr.cell? ⟨b, o + k * 2 + 1, none⟩ = some (.slice A' xs.length c') := by obtain ⟨y, e⟩ := hy2; rw [e, cell_ext hb0]; exact Hd0.out
                  by_cases hlt2 : j < xs.length
                  · obtain ⟨b3, o3, rfl, hb3, hc3⟩ := (hv0.toExt hy2).atI hlt2
                    have e := Hj2.out
                    rw [allA_step hlt2] at e
                    obtain ⟨v, hvv⟩ : ∃ v, xs[j] = v := ⟨_, rfl⟩
                    rw [hvv] at e hc3
                    obtain ⟨t6, ht6⟩ : ∃ t, inB v 0 ((n : Int) - 1) = t := ⟨_, rfl⟩
                    rw [ht6] at e
                    have N6 := Lib.hid ht6
                    have He2 := Lib.hid e
                    clear e hvv ht6
                    cases t6 with
                    | false =>
                      have HB := Lib.hid (show ats.all (atomB n) = false by rw [← He.out, ← He2.out]; rfl)
                      go_wp2
                      refine wp_region_ext (by kernel_rfl) (by kernel_rfl) ?_
                      repeat (go_big_quiet_step ((go_at_call 123; (try rw [hw1]); exact quietSb (l1In_any _ _ _ _) N6.out)))
                      refine wpQuiet_nil ?_
                      rintro _ ⟨zz, rfl⟩
                      go_wp2
                      go_ret
                      exact ⟨by rw [HF1.out HB.out]; rfl, (by refine Chg.isExt (F := []) ?_ (refl_ext _) (by simp); repeat (with_reducible (first | exact Chg.refl _ _ | exact Nat.le_refl _ | exact Chg.ofExt (by assumption) | refine Chg.trans0 ?_ (by assumption) | refine Chg.extS ?_ _ | refine Chg.alloc ?_ _ | refine Chg.drew ?_ | refine Chg.setCellE ?_ ?_ _ | refine le_addk ?_ _ | refine le_ext ?_ | refine le_alloc ?_ _ | refine le_setC ?_ _ _ | refine le_drew ?_ | assumption | (refine Nat.le_of_lt ?_; omega) | omega)))⟩
                    | true =>
                      go_wp2
                      refine wp_region_ext (by kernel_rfl) (by kernel_rfl) ?_
                      repeat (go_big_quiet_step ((go_at_call 123; (try rw [hw1]); exact quietSb (l1In_any _ _ _ _) N6.out)))
                      refine wpQuiet_nil ?_
                      rintro _ ⟨zz, rfl⟩
                      go_wp2
                      exact ⟨⟨j + 1, by go_num, by omega, (by refine Chg.isExt (F := []) ?_ (refl_ext _) (by simp); repeat (with_reducible (first | exact Chg.refl _ _ | exact Nat.le_refl _ | exact Chg.ofExt (by assumption) | refine Chg.trans0 ?_ (by assumption) | refine Chg.extS ?_ _ | refine Chg.alloc ?_ _ | refine Chg.drew ?_ | refine Chg.setCellE ?_ ?_ _ | refine le_addk ?_ _ | refine le_ext ?_ | refine le_alloc ?_ _ | refine le_setC ?_ _ _ | refine le_drew ?_ | assumption | (refine Nat.le_of_lt ?_; omega) | omega))), by simpa using He2.out⟩, by simp [intOf]; omega⟩
                  · have e := Hj2.out
                    rw [allA_end hlt2] at e
                    have e2 := He.out
                    rw [← e] at e2
                    have He2 := Lib.hid e2
                    clear e e2
                    go_wp2
                    exact ⟨⟨k + 1, by go_num, by omega, hy2, by simpa using He2.out⟩, by simp [intOf]; omega⟩
          · have e := Hj.out
            rw [allA_end hlt] at e
            have HA := Lib.hid e.symm
            clear e
            go_wp2
            clear hlt Hj l1 a1 a1' a1'' f1
            go_loopw [5] (fun i wr => ∃ v : Nat, i = .int .i64 v ∧ v ≤ n ∧ (∃ y, wr = ext W y) ∧ ((mkU n (seen ats)).drop v).all id = (mkU n (seen ats)).all id) (fun i _ => n - (intOf i).toNat)
            case atStart => exact ⟨0, rfl, by omega, hy, by simp⟩
            case round =>
              obtain ⟨v, rfl, hv, hy, hj⟩ := hrel
              have Hj := Lib.hid hj
              clear hj
              obtain ⟨l1, a1, a1', a1'', f1⟩ := box3 (BoxAt.toExt (cs := #[_, _, _]) ⟨lW0, bW0, fW0⟩ hy)
              by_cases hlt : v < n
              · have hlt2 : v < (mkU n (seen ats)).length := by simpa using hlt
                have e := Hj.out
                rw [allA_step hlt2] at e
                have em : (mkU n (seen ats))[v] = decide ((v : Int) ∈ seen ats) := by simp [mkU]
                rw [em] at e
                have He := Lib.hid e
                clear e em
                go_wp2
                clear l1 a1 a1' a1'' f1
                go_loopw [6, 7] (fun s i vs => ∃ k : Nat, i = .int .i64 k ∧ s = .bool (decide ((v : Int) ∈ seen (ats.take k))) ∧ k ≤ ats.length ∧ (∃ y, vs = ext W y)) (fun _ i _ => ats.length - (intOf i).toNat)
                case atStart => exact ⟨0, rfl, by simp [seen], by omega, hy⟩
                case round =>
                  obtain ⟨k, rfl, rfl, hk, hy2⟩ := hrel
                  obtain ⟨l2, a2, a2', a2'', f2⟩ := box3 (BoxAt.toExt (cs := #[_, _, _]) ⟨lW0, bW0, fW0⟩ hy2)
                  by_cases hlt3 : k < ats.length
                  · obtain ⟨b, o, A', c', rfl, hb0, hc0, hd0, hv0⟩ := r1.atA hlt3
                    have hb : b < wr.heap.size := Nat.lt_of_lt_of_le hb0 (size_of_ext hy2)
                    have hc : wr.cell? ⟨b, o + k * 2, none⟩ = some (.string ats[k].1) := by obtain ⟨y, e⟩ := hy2; rw [e, cell_ext hb0]; exact hc0
                    have hd : wr.cell? ⟨b, o + k * 2 + 1, none⟩ = some (.slice A' ats[k].2.length c') := by obtain ⟨y, e⟩ := hy2; rw [e, cell_ext hb0]; exact hd0
                    have x2 : ats[k].2.length ≤ 1000000000 := by have := (Hx.out ats[k] (List.getElem_mem hlt3)).2; omega
                    have hst : decide ((v : Int) ∈ seen (ats.take (k + 1))) = (decide ((v : Int) ∈ seen (ats.take k)) || decide ((v : Int) ∈ ats[k].2)) := by
                      rw [seen_take hlt3, Bool.eq_iff_iff]; simp
                    obtain ⟨t7, ht7⟩ : ∃ t, decide ((v : Int) ∈ seen (ats.take k)) = t := ⟨_, rfl⟩
                    obtain ⟨t8, ht8⟩ : ∃ t, decide ((v : Int) ∈ ats[k].2) = t := ⟨_, rfl⟩
                    rw [ht7, ht8] at hst
                    rw [ht7]
                    have Hst := Lib.hid hst
                    have H8 := Lib.hid ht8
                    clear hst ht7 ht8 hc0 hd0
                    cases t7 with
                    | true =>
                      go_wp2
                      exact ⟨⟨k + 1, by go_num, by rw [Hst.out]; rfl, by omega, hy2⟩, by simp [intOf]; omega⟩
                    | false =>
                      go_wp2_with (go_at_call 151; refine (specContains_any x2 (hv0.toExt hy2)).mono ?_; rintro e w1 ⟨rfl, hx1⟩; rw [H8.out])
                      exact ⟨⟨k + 1, by go_num, by rw [Hst.out, Bool.false_or], by omega, (by refine Chg.isExt (F := []) ?_ (refl_ext _) (by simp); repeat (with_reducible (first | exact Chg.refl _ _ | exact Nat.le_refl _ | exact Chg.ofExt (by assumption) | refine Chg.trans0 ?_ (by assumption) | refine Chg.extS ?_ _ | refine Chg.alloc ?_ _ | refine Chg.drew ?_ | refine Chg.setCellE ?_ ?_ _ | refine le_addk ?_ _ | refine le_ext ?_ | refine le_alloc ?_ _ | refine le_setC ?_ _ _ | refine le_drew ?_ | assumption | (refine Nat.le_of_lt ?_; omega) | omega)))⟩, by simp [intOf]; omega⟩
                  · have ek : ats.take k = ats := List.take_of_length_le (by omega)
                    rw [ek]
                    have He2 := He.out
                    obtain ⟨t9, ht9⟩ : ∃ t, decide ((v : Int) ∈ seen ats) = t := ⟨_, rfl⟩
                    rw [ht9] at He2 ⊢
                    have HR := Lib.hid He2
                    clear ek He2 ht9
                    cases t9 with
                    | true =>
                      go_wp2
                      exact ⟨⟨v + 1, by go_num, by omega, hy2, by simpa using HR.out⟩, by simp [intOf]; omega⟩
                    | false =>
                      go_wp2
                      go_ret
                      exact ⟨by rw [HF2.out HR.out.symm]; rfl, trans_ext xW hy2⟩
              · have e := Hj.out
                rw [allA_end (by simpa using hlt)] at e
                have HU := Lib.hid (HT.out HA.out e.symm)
                clear e
                go_wp2
                clear hlt Hj l1 a1 a1' a1'' f1
                go_loopw [8] (fun i wr => ∃ k : Nat, i = .int .i64 k ∧ k ≤ out.length ∧ (∃ y, wr = ext W y) ∧ setB n (out.take k) (out.drop k) = setB n [] out) (fun i _ => out.length - (intOf i).toNat)
                case atStart => exact ⟨0, rfl, by omega, hy, by simp⟩
                case round =>
                  obtain ⟨k, rfl, hk, hy3, hj⟩ := hrel
                  have Hj := Lib.hid hj
                  clear hj
                  obtain ⟨l3, a3, a3', a3'', f3⟩ := box3 (BoxAt.toExt (cs := #[_, _, _]) ⟨lW0, bW0, fW0⟩ hy3)
                  by_cases hlt : k < out.length
                  · have r2' := r2.toExt hy3
                    obtain ⟨b, o, rfl, hb, hc⟩ := r2'.atI hlt
                    have e := Hj.out
                    rw [setB_step hlt] at e
                    obtain ⟨x, hx⟩ : ∃ x, out[k] = x := ⟨_, rfl⟩
                    rw [hx] at e hc
                    obtain ⟨t1, ht1⟩ : ∃ t, inB x 0 ((n : Int) - 1) = t := ⟨_, rfl⟩
                    obtain ⟨m, hm⟩ : ∃ m, iof 0 x (out.take k) = m := ⟨_, rfl⟩
                    have hmm := iof_nonneg (n := x) 0 (out.take k)
                    rw [hm] at hmm
                    have hp := r2'.pre k
                    have HP := Lib.hid (show (out.take k).length = k by simp; omega)
                    have T1 := Lib.hid ht1
                    have T2 := Lib.hid hm
                    have g1 : (0 : Int) ≤ (k : Int) := by omega
                    have g2 : (k : Int) ≤ (e1 : Int) := by omega
                    rw [ht1] at e
                    cases t1 with
                    | false =>
                      have He := Lib.hid e
                      clear e ht1 hm hx hmm
                      go_wp2
                      refine wp_region_ext (by kernel_rfl) (by kernel_rfl) ?_
                      repeat (go_big_quiet_step ((go_at_call 123; (try rw [hw1]); exact quietSb (l1In_any _ _ _ _) T1.out)))
                      refine wpQuiet_nil ?_
                      rintro _ ⟨zz, rfl⟩
                      go_wp2
                      go_ret
                      exact ⟨by rw [HU.out, ← He.out]; rfl, (by refine Chg.isExt (F := []) ?_ (refl_ext _) (by simp); repeat (with_reducible (first | exact Chg.refl _ _ | exact Nat.le_refl _ | exact Chg.ofExt (by assumption) | refine Chg.trans0 ?_ (by assumption) | refine Chg.extS ?_ _ | refine Chg.alloc ?_ _ | refine Chg.drew ?_ | refine Chg.setCellE ?_ ?_ _ | refine le_addk ?_ _ | refine le_ext ?_ | refine le_alloc ?_ _ | refine le_setC ?_ _ _ | refine le_drew ?_ | assumption | (refine Nat.le_of_lt ?_; omega) | omega)))⟩
                    | true =>
                      by_cases hm0 : 0 ≤ m
                      · rw [decide_eq_true (hmm.1 hm0)] at e
                        have He := Lib.hid e
                        clear e ht1 hm hx hmm
                        go_wp2
                        refine wp_region_ext (by kernel_rfl) (by kernel_rfl) ?_
                        repeat (go_big_quiet_step (first | (go_at_call 123; (try rw [hw1]); exact quietSb (l1In_any _ _ _ _) T1.out) | (go_at_call 125; exact quietEi' (l7Find_n HP.out (by omega) hp.ext) T2.out)))
                        refine wpQuiet_nil ?_
                        rintro _ ⟨zz, rfl⟩
                        go_wp2
                        go_ret
                        exact ⟨by rw [HU.out, ← He.out]; rfl, (by refine Chg.isExt (F := []) ?_ (refl_ext _) (by simp); repeat (with_reducible (first | exact Chg.refl _ _ | exact Nat.le_refl _ | exact Chg.ofExt (by assumption) | refine Chg.trans0 ?_ (by assumption) | refine Chg.extS ?_ _ | refine Chg.alloc ?_ _ | refine Chg.drew ?_ | refine Chg.setCellE ?_ ?_ _ | refine le_addk ?_ _ | refine le_ext ?_ | refine le_alloc ?_ _ | refine le_setC ?_ _ _ | refine le_drew ?_ | assumption | (refine Nat.le_of_lt ?_; omega) | omega)))⟩
                      · rw [decide_eq_false (fun h => hm0 (hmm.2 h))] at e
                        have He := Lib.hid e
                        have hm1 : m < 0 := by omega
                        clear e ht1 hm hx hmm
                        go_wp2
                        refine wp_region_ext (by kernel_rfl) (by kernel_rfl) ?_
                        repeat (go_big_quiet_step (first | (go_at_call 123; (try rw [hw1]); exact quietSb (l1In_any _ _ _ _) T1.out) | (go_at_call 125; exact quietEi' (l7Find_n HP.out (by omega) hp.ext) T2.out)))
                        refine wpQuiet_nil ?_
                        rintro _ ⟨zz, rfl⟩
                        go_wp2
                        exact ⟨⟨k + 1, by go_num, by omega, (by refine Chg.isExt (F := []) ?_ (refl_ext _) (by simp); repeat (with_reducible (first | exact Chg.refl _ _ | exact Nat.le_refl _ | exact Chg.ofExt (by assumption) | refine Chg.trans0 ?_ (by assumption) | refine Chg.extS ?_ _ | refine Chg.alloc ?_ _ | refine Chg.drew ?_ | refine Chg.setCellE ?_ ?_ _ | refine le_addk ?_ _ | refine le_ext ?_ | refine le_alloc ?_ _ | refine le_setC ?_ _ _ | refine le_drew ?_ | assumption | (refine Nat.le_of_lt ?_; omega) | omega))), by simpa using He.out⟩, by simp [intOf]; omega⟩
                  · have e := Hj.out
                    rw [setB_end hlt] at e
                    have He := Lib.hid e
                    clear e
                    go_wp2
                    go_ret
                    exact ⟨by rw [HU.out, ← He.out]; rfl, trans_ext xW hy3⟩
theorem specIsValidQuery_any {A B : Option Addr} {c e1 : Nat} {d : Qd} {w : World} (hb : BQ d) (h : vQ w [.int .i64 d.1, .slice A d.2.1.length c, .slice B d.2.2.length e1] d) :
    Calls Try.prog 157 #[.agg #[.int .i64 d.1, .slice A d.2.1.length c, .slice B d.2.2.length e1]] w fun e w' => e = .returned (.bool (vqB d)) ∧ ∃ y, w' = ext w y := specIsValidQuery_w hb.w h
end Go.Proofs.Ytfigcfajkilhiaa

/- Texts compared. No program in it. -/
namespace Go.Proofs.Ytfigcfajkilhiaa
open Go.RowKit
theorem str_beqf {s t : ByteArray} (h : s ≠ t) : (s.toList == t.toList) = false := by rw [str_beq, decide_eq_false h]
theorem str_beqt {s t : ByteArray} (h : s = t) : (s.toList == t.toList) = true := by rw [str_beq, decide_eq_true h]
theorem str_bnef {s t : ByteArray} (h : s ≠ t) : (s.toList != t.toList) = true := by rw [bne, str_beqf h]; rfl
theorem str_bnet {s t : ByteArray} (h : s = t) : (s.toList != t.toList) = false := by rw [bne, str_beqt h]; rfl
end Go.Proofs.Ytfigcfajkilhiaa

/- Texts joined by a separator. -/
namespace Go.Proofs.Ytfigcfajkilhiaa
open Go.RowKit

theorem tS : SlT Try.prog 117 9 1 16 (.string ⟨#[]⟩) := ⟨Try.underlying117, by kernel_rfl, rfl, by omega⟩
/-! texts joined by a separator -/
def joinF (sep : ByteArray) : Nat → ByteArray → List ByteArray → ByteArray
  | _, acc, [] => acc
  | k, acc, p :: ps => joinF sep (k + 1) ((if 0 < k then acc ++ sep else acc) ++ p) ps
theorem joinF_step {sep acc : ByteArray} {ps : List ByteArray} {k : Nat} (h : k < ps.length) : joinF sep k acc (ps.drop k) = joinF sep (k + 1) ((if 0 < k then acc ++ sep else acc) ++ ps[k]) (ps.drop (k + 1)) := by
  rw [List.drop_eq_getElem_cons h, joinF]
set_option maxHeartbeats 1000000 in
theorem join_any {A : Option Addr} {c : Nat} {ps : List ByteArray} {sep : ByteArray} {w : World} (hx : ps.length ≤ 1000000000) (h1 : RS w A ps) (hs : sep.size ≤ 1000000000) (hp : ∀ j (h : j < ps.length), ps[j].size ≤ 1000000000) :
    Calls Try.prog 134 #[.slice A ps.length c, .string sep] w fun e w' => e = .returned (.string (joinF sep 0 ⟨#[]⟩ ps)) ∧ ∃ y, w' = ext w y := by
  have Hp := Lib.hid hp
  clear hp
  go_enter Try.func134, Try.ntmps134
  go_wp2
  go_loopw [5, 10] (fun o i wr => ∃ (k : Nat) (acc : ByteArray), o = .string acc ∧ i = .int .i64 k ∧ k ≤ ps.length ∧ acc.size ≤ 2000000000 * k ∧ joinF sep k acc (ps.drop k) = joinF sep 0 ⟨#[]⟩ ps ∧ ∃ y, wr = ext w y) (fun _ i _ => ps.length - (intOf i).toNat)
  case atStart => exact ⟨0, ⟨#[]⟩, rfl, rfl, by omega, by decide, by simp, refl_ext w⟩
  case round =>
    obtain ⟨k, acc, rfl, rfl, hk, ha, hj, hy⟩ := hrel
    have Hj := Lib.hid hj
    clear hj
    have h1' := h1.toExt hy
    by_cases hlt : k < ps.length
    · have hpk := Hp.out k hlt
      have e := Hj.out
      rw [joinF_step hlt] at e
      have He := Lib.hid e
      clear e
      obtain ⟨b, o, rfl, hb, hc⟩ := h1'.atS hlt
      have hsa := ba_size acc sep
      have hsb := ba_size (acc ++ sep) ps[k]
      have hsc := ba_size acc ps[k]
      by_cases h0 : 0 < k
      · have e := He.out
        rw [if_pos h0] at e
        have He := Lib.hid e
        clear e
        go_wp2
        exact ⟨⟨k + 1, acc ++ sep ++ ps[k], rfl, by go_num, by omega, by omega, He.out, hy⟩, by simp [intOf]; omega⟩
      · have e := He.out
        rw [if_neg h0] at e
        have He := Lib.hid e
        clear e
        go_wp2
        exact ⟨⟨k + 1, acc ++ ps[k], rfl, by go_num, by omega, by omega, He.out, hy⟩, by simp [intOf]; omega⟩
    · go_wp2
      go_ret
      have e := Hj.out
      rw [List.drop_eq_nil_of_le (by omega), joinF] at e
      exact ⟨by rw [← e]; rfl, hy⟩
theorem join_n {A : Option Addr} {c n : Nat} {ps : List ByteArray} {sep : ByteArray} {w : World} (hn : ps.length = n) (hx : n ≤ 1000000000) (h1 : RS w A ps) (hs : sep.size ≤ 1000000000) (hp : ∀ j (h : j < ps.length), ps[j].size ≤ 1000000000) :
    Calls Try.prog 134 #[.slice A n c, .string sep] w fun e w' => e = .returned (.string (joinF sep 0 ⟨#[]⟩ ps)) ∧ ∃ y, w' = ext w y := by
  subst hn
  exact join_any hx h1 hs hp
end Go.Proofs.Ytfigcfajkilhiaa

/- Queries as text; the program's way and the reference's. -/
namespace Go.Proofs.Ytfigcfajkilhiaa
open Go.RowKit

theorem ba_assoc (a b c : ByteArray) : a ++ b ++ c = a ++ (b ++ c) := bl_inj (by simp [bl])
theorem ba_nil (a : ByteArray) : a ++ ⟨#[]⟩ = a := bl_inj (by simp [bl])
theorem nil_ba (a : ByteArray) : ⟨#[]⟩ ++ a = a := bl_inj (by simp [bl])
def nmG : ByteArray → List Int → ByteArray
  | acc, [] => acc
  | acc, v :: vs => nmG (acc ++ vname v) vs
def names (l : List Int) : ByteArray := nmG ⟨#[]⟩ l
theorem nmG_eq : ∀ (l : List Int) (acc : ByteArray), nmG acc l = acc ++ names l
  | [], acc => by rw [names, nmG, nmG, ba_nil]
  | v :: vs, acc => by
    have e : names (v :: vs) = vname v ++ names vs := by
      show nmG (⟨#[]⟩ ++ vname v) vs = _
      rw [nil_ba, nmG_eq vs]
    rw [nmG, nmG_eq vs, e, ba_assoc]
theorem nmG_step {acc : ByteArray} {l : List Int} {k : Nat} (h : k < l.length) : nmG acc (l.drop k) = nmG (acc ++ vname l[k]) (l.drop (k + 1)) := by
  rw [List.drop_eq_getElem_cons h, nmG]
theorem nmG_end {acc : ByteArray} {l : List Int} {k : Nat} (h : ¬ k < l.length) : nmG acc (l.drop k) = acc := by
  rw [List.drop_eq_nil_of_le (by omega), nmG]
theorem vname_size (v : Int) : (vname v).size ≤ 1 := by
  unfold vname
  split
  · rw [ByteArray.size_extract]; omega
  · decide
theorem names_size : ∀ (l : List Int), (names l).size ≤ l.length
  | [] => by decide
  | v :: vs => by
    have h1 := names_size vs
    have h2 := vname_size v
    rw [show names (v :: vs) = nmG (⟨#[]⟩ ++ vname v) vs from rfl, nil_ba, nmG_eq, ba_size, List.length_cons]
    omega
def par (l : List Int) : ByteArray := ⟨#[40]⟩ ++ names l ++ ⟨#[41]⟩
def atomT (x : At) : ByteArray := x.1 ++ ⟨#[40]⟩ ++ names x.2 ++ ⟨#[41]⟩
def fmtQ (d : Qd) : ByteArray := if vqB d = true then ⟨#[40]⟩ ++ names d.2.2 ++ ⟨#[41, 61]⟩ ++ joinF ⟨#[44]⟩ 0 ⟨#[]⟩ (d.2.1.map atomT) else ⟨#[]⟩
theorem atomT_par (x : At) : x.1 ++ par x.2 = atomT x := by unfold par atomT; simp only [ba_assoc]
theorem joinF_acc (sep : ByteArray) : ∀ (ps : List ByteArray) (k : Nat) (acc : ByteArray), joinF sep k acc ps = acc ++ joinF sep k ⟨#[]⟩ ps
  | [], k, acc => by rw [joinF, joinF, ba_nil]
  | p :: ps, k, acc => by
    rw [joinF, joinF, joinF_acc sep ps, joinF_acc sep ps (k + 1) ((if 0 < k then ⟨#[]⟩ ++ sep else ⟨#[]⟩) ++ p)]
    split
    · simp only [nil_ba, ba_assoc]
    · simp only [nil_ba, ba_assoc]
theorem fmtQ_par {d : Qd} (h : vqB d = true) : joinF ⟨#[44]⟩ 0 (par d.2.2 ++ ⟨#[61]⟩) (d.2.1.map atomT) = fmtQ d := by
  unfold fmtQ
  rw [if_pos h, joinF_acc]
  congr 1
  unfold par
  rw [ba_assoc, show (⟨#[41]⟩ ++ ⟨#[61]⟩ : ByteArray) = ⟨#[41, 61]⟩ from rfl]
theorem vqB_facts {d : Qd} (h : vqB d = true) : d.2.1.length ≤ 4 ∧ d.2.2.length ≤ 5 ∧ ∀ x ∈ d.2.1, x.1.size ≤ 4 ∧ x.2.length ≤ 5 := by
  unfold vqB at h
  simp only [Bool.and_eq_true, List.all_eq_true] at h
  obtain ⟨⟨⟨⟨h1, h2⟩, h3⟩, h4⟩, _⟩ := h
  have h1 := inB_t h1
  have h2 := inB_t h2
  have h3 := setB_len h3 (by omega)
  refine ⟨by omega, by omega, fun x hx => ?_⟩
  have h5 := h4 x hx
  unfold atomB nameB at h5
  simp only [Bool.and_eq_true] at h5
  obtain ⟨⟨⟨h6, _⟩, h7⟩, _⟩ := h5
  have h6 := inB_t h6
  have h7 := inB_t h7
  omega
theorem atomT_size {x : At} (h1 : x.1.size ≤ 4) (h2 : x.2.length ≤ 5) : (atomT x).size ≤ 20 := by
  have := names_size x.2
  unfold atomT
  rw [ba_size, ba_size, ba_size, show (ByteArray.mk #[40]).size = 1 from rfl, show (ByteArray.mk #[41]).size = 1 from rfl]
  omega
theorem joinF_size (m : Nat) : ∀ (ps : List ByteArray) (k : Nat) (acc : ByteArray), (∀ p ∈ ps, p.size ≤ m) → (joinF ⟨#[44]⟩ k acc ps).size ≤ acc.size + ps.length * (m + 1)
  | [], k, acc, _ => by simp [joinF]
  | p :: ps, k, acc, h => by
    have h1 := h p (by simp)
    have ih := joinF_size m ps (k + 1) ((if 0 < k then acc ++ ⟨#[44]⟩ else acc) ++ p) fun q hq => h q (by simp [hq])
    have h2 : ((if 0 < k then acc ++ ⟨#[44]⟩ else acc) ++ p).size ≤ acc.size + 1 + p.size := by
      rw [ba_size]
      split
      · rw [ba_size, show (ByteArray.mk #[44]).size = 1 from rfl]; omega
      · omega
    rw [joinF, List.length_cons, Nat.add_mul]
    omega
set_option maxHeartbeats 400000 in
theorem l7Vars_any {A : Option Addr} {c : Nat} {xs : List Int} {w : World} (hx : xs.length ≤ 1000000) (h1 : RI w A xs) :
    Calls Try.prog 204 #[.slice A xs.length c] w fun e w' => e = .returned (.string (par xs)) ∧ ∃ y, w' = ext w y := by
  go_enter Try.func204, Try.ntmps204
  go_wp2
  go_loopw [3, 4] (fun s i wr => ∃ (k : Nat) (acc : ByteArray), s = .string acc ∧ i = .int .i64 k ∧ k ≤ xs.length ∧ acc.size ≤ k + 1 ∧ nmG acc (xs.drop k) = ⟨#[40]⟩ ++ names xs ∧ ∃ y, wr = ext w y) (fun _ i _ => xs.length - (intOf i).toNat)
  case atStart => exact ⟨0, ⟨#[40]⟩, rfl, rfl, by omega, by decide, by rw [List.drop_zero, nmG_eq], refl_ext w⟩
  case round =>
    obtain ⟨k, acc, rfl, rfl, hk, ha, hj, hy⟩ := hrel
    have Hj := Lib.hid hj
    clear hj
    by_cases hlt : k < xs.length
    · obtain ⟨b, o, rfl, hb, hc⟩ := (h1.toExt hy).atI hlt
      have hs := vname_size xs[k]
      have hss := ba_size acc (vname xs[k])
      have He := Lib.hid ((nmG_step hlt).symm.trans Hj.out)
      go_wp2_with (go_at_call 200; refine (specVariableName_any _ _).mono ?_; rintro e w' ⟨rfl, rfl⟩)
      exact ⟨⟨k + 1, acc ++ vname xs[k], rfl, by go_num, by omega, by omega, He.out, hy⟩, by simp [intOf]; omega⟩
    · have e := Hj.out
      rw [nmG_end hlt] at e
      have He := Lib.hid (show acc ++ ⟨#[41]⟩ = par xs by rw [e]; rfl)
      have h41 : (ByteArray.mk #[41]).size = 1 := rfl
      clear e
      go_wp2
      go_ret
      exact ⟨by rw [← He.out]; rfl, hy⟩
theorem par_size (l : List Int) : (par l).size ≤ l.length + 2 := by
  have := names_size l
  unfold par
  rw [ba_size, ba_size, show (ByteArray.mk #[40]).size = 1 from rfl, show (ByteArray.mk #[41]).size = 1 from rfl]
  omega
set_option maxHeartbeats 4000000 in
theorem specFormatQuery_w {A B : Option Addr} {c e1 : Nat} {d : Qd} {w : World} (hb : WQ d) (h : vQ w [.int .i64 d.1, .slice A d.2.1.length c, .slice B d.2.2.length e1] d) :
    Calls Try.prog 201 #[.agg #[.int .i64 d.1, .slice A d.2.1.length c, .slice B d.2.2.length e1]] w fun e w' => e = .returned (.string (fmtQ d)) ∧ ∃ y, w' = ext w y := by
  have HB := Lib.hid hb
  have HV := Lib.hid h
  obtain ⟨r1, r2, _⟩ := vQ_get h
  have r1 := (vAts_get r1).2
  obtain ⟨z, ats, out⟩ := d
  dsimp only at r1 r2 ⊢
  clear h hb
  obtain ⟨t1, ht1⟩ : ∃ t, vqB (z, ats, out) = t := ⟨_, rfl⟩
  have N1 := Lib.hid ht1
  cases t1 with
  | false =>
    have HE := Lib.hid (show fmtQ (z, ats, out) = ⟨#[]⟩ by unfold fmtQ; rw [ht1]; rfl)
    clear ht1
    go_enter Try.func201, Try.ntmps201
    go_wp2_with (go_at_call 157; refine (specIsValidQuery_w (d := (z, ats, out)) HB.out (VD.toExt HV.out (by refine Chg.isExt (F := []) ?_ (refl_ext _) (by simp); repeat (with_reducible (first | exact Chg.refl _ _ | exact Nat.le_refl _ | exact Chg.ofExt (by assumption) | refine Chg.trans0 ?_ (by assumption) | refine Chg.extS ?_ _ | refine Chg.alloc ?_ _ | refine Chg.drew ?_ | refine Chg.setCellE ?_ ?_ _ | refine le_addk ?_ _ | refine le_ext ?_ | refine le_alloc ?_ _ | refine le_setC ?_ _ _ | refine le_drew ?_ | assumption | (refine Nat.le_of_lt ?_; omega) | omega))))).mono ?_; rintro e w1 ⟨rfl, hx1⟩; rw [N1.out])
    go_ret
    exact ⟨by rw [HE.out]; rfl, (by refine Chg.isExt (F := []) ?_ (refl_ext _) (by simp); repeat (with_reducible (first | exact Chg.refl _ _ | exact Nat.le_refl _ | exact Chg.ofExt (by assumption) | refine Chg.trans0 ?_ (by assumption) | refine Chg.extS ?_ _ | refine Chg.alloc ?_ _ | refine Chg.drew ?_ | refine Chg.setCellE ?_ ?_ _ | refine le_addk ?_ _ | refine le_ext ?_ | refine le_alloc ?_ _ | refine le_setC ?_ _ _ | refine le_drew ?_ | assumption | (refine Nat.le_of_lt ?_; omega) | omega)))⟩
  | true =>
    have HE := Lib.hid (fmtQ_par ht1)
    obtain ⟨g1, g2, g3⟩ := vqB_facts ht1
    dsimp only at g1 g2 g3
    have Hx := Lib.hid g3
    clear ht1 g3
    have z1 := par_size out
    have z5 : (ByteArray.mk #[61]).size = 1 := rfl
    have z2 := ba_size (par out) ⟨#[61]⟩
    go_enter Try.func201, Try.ntmps201
    go_wp2_with (first
      | (go_at_call 157; refine (specIsValidQuery_w (d := (z, ats, out)) HB.out (VD.toExt HV.out (by refine Chg.isExt (F := []) ?_ (refl_ext _) (by simp); repeat (with_reducible (first | exact Chg.refl _ _ | exact Nat.le_refl _ | exact Chg.ofExt (by assumption) | refine Chg.trans0 ?_ (by assumption) | refine Chg.extS ?_ _ | refine Chg.alloc ?_ _ | refine Chg.drew ?_ | refine Chg.setCellE ?_ ?_ _ | refine le_addk ?_ _ | refine le_ext ?_ | refine le_alloc ?_ _ | refine le_setC ?_ _ _ | refine le_drew ?_ | assumption | (refine Nat.le_of_lt ?_; omega) | omega))))).mono ?_; rintro e w1 ⟨rfl, hx1⟩; rw [N1.out]; have P1 := (BoxAt.new w #[.int .i64 z, .slice A ats.length c, .slice B out.length e1] 55).toExt hx1; obtain ⟨l1, a1, a1', a1'', f1⟩ := box3 P1)
      | (go_at_call 204; refine (l7Vars_any (by omega) (r2.toExt (by refine Chg.isExt (F := []) ?_ (refl_ext _) (by simp); repeat (with_reducible (first | exact Chg.refl _ _ | exact Nat.le_refl _ | exact Chg.ofExt (by assumption) | refine Chg.trans0 ?_ (by assumption) | refine Chg.extS ?_ _ | refine Chg.alloc ?_ _ | refine Chg.drew ?_ | refine Chg.setCellE ?_ ?_ _ | refine le_addk ?_ _ | refine le_ext ?_ | refine le_alloc ?_ _ | refine le_setC ?_ _ _ | refine le_drew ?_ | assumption | (refine Nat.le_of_lt ?_; omega) | omega))))).mono ?_; rintro e w2 ⟨rfl, hx2⟩))
    have hxw : ∃ y, w1 = ext w y := (by refine Chg.isExt (F := []) ?_ (refl_ext _) (by simp); repeat (with_reducible (first | exact Chg.refl _ _ | exact Nat.le_refl _ | exact Chg.ofExt (by assumption) | refine Chg.trans0 ?_ (by assumption) | refine Chg.extS ?_ _ | refine Chg.alloc ?_ _ | refine Chg.drew ?_ | refine Chg.setCellE ?_ ?_ _ | refine le_addk ?_ _ | refine le_ext ?_ | refine le_alloc ?_ _ | refine le_setC ?_ _ _ | refine le_drew ?_ | assumption | (refine Nat.le_of_lt ?_; omega) | omega)))
    go_loopw [3, 4] (fun v i wr => ∃ (k : Nat) (acc : ByteArray), i = .int .i64 k ∧ v = .string acc ∧ k ≤ ats.length ∧ acc.size ≤ 10 + 30 * k ∧ joinF ⟨#[44]⟩ k acc ((ats.drop k).map atomT) = joinF ⟨#[44]⟩ 0 (par out ++ ⟨#[61]⟩) (ats.map atomT) ∧ ∃ y, wr = ext w1 y) (fun _ i _ => ats.length - (intOf i).toNat)
    case atStart => exact ⟨0, _, rfl, rfl, by omega, by omega, by simp, hx2⟩
    case round =>
      obtain ⟨k, acc, rfl, rfl, hk, ha, hj, hy⟩ := hrel
      have Hj := Lib.hid hj
      clear hj
      obtain ⟨l2, a2, a2', a2'', f2⟩ := box3 (P1.toExt hy)
      by_cases hlt : k < ats.length
      · obtain ⟨b, o, A', c', rfl, hb, hc, hd, hv⟩ := (r1.toExt (trans_ext hxw hy)).atA hlt
        obtain ⟨x1, x2⟩ := Hx.out ats[k] (List.getElem_mem hlt)
        have HA := Lib.hid (atomT_par ats[k])
        have e := Hj.out
        rw [List.drop_eq_getElem_cons hlt, List.map_cons, joinF] at e
        obtain ⟨s, hs⟩ : ∃ s, ats[k].1 = s := ⟨_, rfl⟩
        obtain ⟨xs, hxs⟩ : ∃ xs, ats[k].2 = xs := ⟨_, rfl⟩
        rw [← atomT_par, hs, hxs] at e
        rw [hs] at hc x1
        rw [hxs] at hd hv x2
        have y1 := par_size xs
        have y5 : (ByteArray.mk #[44]).size = 1 := rfl
        clear hs hxs
        by_cases h0 : 0 < k
        · rw [if_pos h0] at e
          have y2 := ba_size acc ⟨#[44]⟩
          have y3 := ba_size (acc ++ ⟨#[44]⟩) s
          have y4 := ba_size (acc ++ ⟨#[44]⟩ ++ s) (par xs)
          have He := Lib.hid (show joinF ⟨#[44]⟩ (k + 1) (acc ++ ⟨#[44]⟩ ++ s ++ par xs) ((ats.drop (k + 1)).map atomT) = joinF ⟨#[44]⟩ 0 (par out ++ ⟨#[61]⟩) (ats.map atomT) by rw [← e, ba_assoc (acc ++ ⟨#[44]⟩)])
          clear e
          go_wp2
          refine wp_region_ext (by kernel_rfl) (by kernel_rfl) ?_
          repeat (go_big_quiet_step ((go_at_call 204; exact quietE (l7Vars_any (by omega) hv.ext))))
          refine wpQuiet_nil ?_
          rintro _ ⟨zz, rfl⟩
          go_wp2
          exact ⟨⟨k + 1, acc ++ ⟨#[44]⟩ ++ s ++ par xs, by go_num, rfl, by omega, by omega, He.out, (by refine Chg.isExt (F := []) ?_ (refl_ext _) (by simp); repeat (with_reducible (first | exact Chg.refl _ _ | exact Nat.le_refl _ | exact Chg.ofExt (by assumption) | refine Chg.trans0 ?_ (by assumption) | refine Chg.extS ?_ _ | refine Chg.alloc ?_ _ | refine Chg.drew ?_ | refine Chg.setCellE ?_ ?_ _ | refine le_addk ?_ _ | refine le_ext ?_ | refine le_alloc ?_ _ | refine le_setC ?_ _ _ | refine le_drew ?_ | assumption | (refine Nat.le_of_lt ?_; omega) | omega)))⟩, by simp [intOf]; omega⟩
        · rw [if_neg h0] at e
          have y3 := ba_size acc s
          have y4 := ba_size (acc ++ s) (par xs)
          have He := Lib.hid (show joinF ⟨#[44]⟩ (k + 1) (acc ++ s ++ par xs) ((ats.drop (k + 1)).map atomT) = joinF ⟨#[44]⟩ 0 (par out ++ ⟨#[61]⟩) (ats.map atomT) by rw [← e, ba_assoc acc])
          clear e
          go_wp2
          refine wp_region_ext (by kernel_rfl) (by kernel_rfl) ?_
          repeat (go_big_quiet_step ((go_at_call 204; exact quietE (l7Vars_any (by omega) hv.ext))))
          refine wpQuiet_nil ?_
          rintro _ ⟨zz, rfl⟩
          go_wp2
          exact ⟨⟨k + 1, acc ++ s ++ par xs, by go_num, rfl, by omega, by omega, He.out, (by refine Chg.isExt (F := []) ?_ (refl_ext _) (by simp); repeat (with_reducible (first | exact Chg.refl _ _ | exact Nat.le_refl _ | exact Chg.ofExt (by assumption) | refine Chg.trans0 ?_ (by assumption) | refine Chg.extS ?_ _ | refine Chg.alloc ?_ _ | refine Chg.drew ?_ | refine Chg.setCellE ?_ ?_ _ | refine le_addk ?_ _ | refine le_ext ?_ | refine le_alloc ?_ _ | refine le_setC ?_ _ _ | refine le_drew ?_ | assumption | (refine Nat.le_of_lt ?_; omega) | omega)))⟩, by simp [intOf]; omega⟩
      · have e := Hj.out
        rw [List.drop_eq_nil_of_le (by omega), List.map_nil, joinF] at e
        have He := Lib.hid (e.trans HE.out)
        clear e
        go_wp2
        go_ret
        exact ⟨by rw [← He.out]; rfl, (by refine Chg.isExt (F := []) ?_ (refl_ext _) (by simp); repeat (with_reducible (first | exact Chg.refl _ _ | exact Nat.le_refl _ | exact Chg.ofExt (by assumption) | refine Chg.trans0 ?_ (by assumption) | refine Chg.extS ?_ _ | refine Chg.alloc ?_ _ | refine Chg.drew ?_ | refine Chg.setCellE ?_ ?_ _ | refine le_addk ?_ _ | refine le_ext ?_ | refine le_alloc ?_ _ | refine le_setC ?_ _ _ | refine le_drew ?_ | assumption | (refine Nat.le_of_lt ?_; omega) | omega)))⟩
theorem specFormatQuery_any {A B : Option Addr} {c e1 : Nat} {d : Qd} {w : World} (hb : BQ d) (h : vQ w [.int .i64 d.1, .slice A d.2.1.length c, .slice B d.2.2.length e1] d) :
    Calls Try.prog 201 #[.agg #[.int .i64 d.1, .slice A d.2.1.length c, .slice B d.2.2.length e1]] w fun e w' => e = .returned (.string (fmtQ d)) ∧ ∃ y, w' = ext w y := specFormatQuery_w hb.w h
end Go.Proofs.Ytfigcfajkilhiaa

/- The neighbours of a variable: the plain way of it. -/
namespace Go.Proofs.Ytfigcfajkilhiaa
open Go.RowKit

def nbG (v : Int) : List Int → List At → List Int
  | acc, [] => acc
  | acc, a :: al => nbG v (if decide (v ∈ a.2) = true then uniL acc (avars 5 0 a.2) else acc) al
def nearP (v w : Int) (a : At) : Bool := decide (w ≠ v) && decide (v ∈ a.2) && decide (w ∈ a.2)
def nearS (ats : List At) (v w : Int) : Bool := ats.any (nearP v w)
def nbrs (d : Qd) (v : Int) : List Int := if vqB d = true then selF (nearS d.2.1 v) d.1.toNat 0 else []
theorem nbG_step {v : Int} {acc : List Int} {ats : List At} {k : Nat} (h : k < ats.length) : nbG v acc (ats.drop k) = nbG v (if decide (v ∈ ats[k].2) = true then uniL acc (avars 5 0 ats[k].2) else acc) (ats.drop (k + 1)) := by
  rw [List.drop_eq_getElem_cons h, nbG]
theorem nbG_end {v : Int} {acc : List Int} {ats : List At} {k : Nat} (h : ¬ k < ats.length) : nbG v acc (ats.drop k) = acc := by
  rw [List.drop_eq_nil_of_le (by omega), nbG]
theorem mem_nbG {v x : Int} : ∀ {ats : List At} {acc : List Int}, x ∈ nbG v acc ats ↔ x ∈ acc ∨ ∃ a ∈ ats, v ∈ a.2 ∧ x ∈ avars 5 0 a.2
  | [], acc => by simp [nbG]
  | a :: al, acc => by
    rw [nbG, mem_nbG (ats := al)]
    by_cases hv : v ∈ a.2
    · rw [if_pos (by simpa using hv), mem_uniL]
      constructor
      · rintro ((h | h) | ⟨b, hb, h1, h2⟩)
        · exact .inl h
        · exact .inr ⟨a, by simp, hv, h⟩
        · exact .inr ⟨b, by simp [hb], h1, h2⟩
      · rintro (h | ⟨b, hb, h1, h2⟩)
        · exact .inl (.inl h)
        · rcases List.mem_cons.1 hb with e | e
          · subst e; exact .inl (.inr h2)
          · exact .inr ⟨b, e, h1, h2⟩
    · rw [if_neg (by simpa using hv)]
      constructor
      · rintro (h | ⟨b, hb, h1, h2⟩)
        · exact .inl h
        · exact .inr ⟨b, by simp [hb], h1, h2⟩
      · rintro (h | ⟨b, hb, h1, h2⟩)
        · exact .inl h
        · rcases List.mem_cons.1 hb with e | e
          · subst e; exact absurd h1 hv
          · exact .inr ⟨b, e, h1, h2⟩
theorem asc_nbG {v : Int} : ∀ {ats : List At} {acc : List Int}, Asc acc → Asc (nbG v acc ats)
  | [], _, h => h
  | a :: al, acc, h => by
    rw [nbG]
    split
    · exact asc_nbG (asc_uniL h)
    · exact asc_nbG h
theorem vqB_vars {d : Qd} (h : vqB d = true) : 1 ≤ d.1 ∧ d.1 ≤ 5 ∧ ∀ a ∈ d.2.1, ∀ v ∈ a.2, 0 ≤ v ∧ v < d.1 := by
  unfold vqB at h
  simp only [Bool.and_eq_true, List.all_eq_true] at h
  obtain ⟨⟨⟨⟨h1, _⟩, _⟩, h4⟩, _⟩ := h
  have h1 := inB_t h1
  refine ⟨h1.1, h1.2, fun a ha v hv => ?_⟩
  have h5 := h4 a ha
  unfold atomB at h5
  simp only [Bool.and_eq_true, List.all_eq_true] at h5
  have := inB_t (h5.2 v hv)
  omega
theorem nb_eq {d : Qd} {v : Int} (h : vqB d = true) : strike v (nbG v [] d.2.1) = nbrs d v := by
  obtain ⟨h1, h2, h3⟩ := vqB_vars h
  unfold nbrs
  rw [if_pos h]
  refine asc_ext (asc_strike (asc_nbG asc_nil)) (asc_selF _ _) fun x => ?_
  rw [mem_strike, mem_nbG, mem_selF]
  unfold nearS nearP
  simp only [List.any_eq_true, Bool.and_eq_true, decide_eq_true_eq, mem_avars]
  constructor
  · rintro ⟨h4 | ⟨a, ha, h5, h6, h7, h8⟩, h9⟩
    · simp at h4
    · have := h3 a ha x h8
      exact ⟨by omega, by omega, a, ha, ⟨h9, h5⟩, h8⟩
  · rintro ⟨h4, h5, a, ha, ⟨h6, h7⟩, h8⟩
    exact ⟨.inr ⟨a, ha, h7, by omega, by omega, h8⟩, h6⟩
theorem nbrs_length (d : Qd) (v : Int) : (nbrs d v).length ≤ 5 := by
  unfold nbrs
  split
  · rename_i h
    obtain ⟨h1, h2, _⟩ := vqB_vars h
    have := selF_length (p := nearS d.2.1 v) d.1.toNat 0
    omega
  · simp
theorem nbG_length {v : Int} : ∀ {ats : List At} {acc : List Int}, (nbG v acc ats).length ≤ acc.length + 5 * ats.length
  | [], acc => by simp [nbG]
  | a :: al, acc => by
    rw [nbG]
    have h1 := avars_length 5 0 a.2
    have h2 := uniL_length (avars 5 0 a.2) acc
    split
    · have := nbG_length (v := v) (ats := al) (acc := uniL acc (avars 5 0 a.2))
      rw [List.length_cons]; omega
    · have := nbG_length (v := v) (ats := al) (acc := acc)
      rw [List.length_cons]; omega
end Go.Proofs.Ytfigcfajkilhiaa

/- Bindings of queries: the rows of an atom, all assignments for which every atom holds; the program's way and the reference's come to the same. No program in it. -/
namespace Go.Proofs.Ytfigcfajkilhiaa
open Go.RowKit

theorem map_at' {l : List Int} {h g : Int → Int} (e : l.map h = l.map g) : ∀ v ∈ l, h v = g v := fun v hv => List.map_inj_left.1 e v hv
def relOf (d : Dbd) (a : At) : Rd := (lookD d a.1).getD (0, [])
def atFit (d : Dbd) (a : At) : Bool := match lookD d a.1 with | some r => decide (r.1 = (a.2.length : Int)) | none => false
def iqfB (d : Dbd) (q : Qd) : Bool := vqB q && dbB d && q.2.1.all (atFit d)
/-- repeated variables have the same value -/
def rowFit (vars row : List Int) : Bool := decide (vars.map (valAt vars row) = row)
def atomBd (d : Dbd) (a : At) : Rd :=
  (((avars 5 0 a.2).length : Int), if atFit d a = true ∧ ∀ v ∈ a.2, 0 ≤ v ∧ v ≤ 4 then sortR (((relOf d a).2.filter (rowFit a.2)).map fun row => (avars 5 0 a.2).map (valAt a.2 row)) else [])
def atomVR (d : Dbd) (a : At) : VRd := (avars 5 0 a.2, atomBd d a)
theorem mem_av5 {xs : List Int} {x : Int} (h : ∀ v ∈ xs, 0 ≤ v ∧ v ≤ 4) : x ∈ avars 5 0 xs ↔ x ∈ xs := by
  rw [mem_avars]
  constructor
  · exact fun h => h.2.2
  · intro hx
    have := h x hx
    exact ⟨by omega, by omega, hx⟩
theorem atFit_some {d : Dbd} {a : At} (h : atFit d a = true) : dbB d = true ∧ TOk (a.1, relOf d a) ∧ (relOf d a).1 = (a.2.length : Int) := by
  unfold atFit at h
  cases e : lookD d a.1 with
  | none => rw [e] at h; cases h
  | some r =>
    rw [e] at h
    have h2 := lookD_ok e
    have er : relOf d a = r := by unfold relOf; rw [e]; rfl
    rw [er]
    exact ⟨h2.1, h2.2, by simpa using h⟩
theorem mem_atom {d : Dbd} {a : At} (hf : atFit d a = true) (hv : ∀ v ∈ a.2, 0 ≤ v ∧ v ≤ 4) {t : List Int} : t ∈ (atomBd d a).2 ↔ ∃ g : Int → Int, (avars 5 0 a.2).map g = t ∧ a.2.map g ∈ (relOf d a).2 := by
  unfold atomBd
  simp only
  rw [if_pos ⟨hf, hv⟩, mem_sortR, List.mem_map]
  constructor
  · rintro ⟨row, hr, rfl⟩
    rw [List.mem_filter] at hr
    have h2 : a.2.map (valAt a.2 row) = row := by simpa [rowFit] using hr.2
    exact ⟨valAt a.2 row, rfl, by rw [h2]; exact hr.1⟩
  · rintro ⟨g, rfl, hg⟩
    refine ⟨a.2.map g, List.mem_filter.2 ⟨hg, ?_⟩, List.map_congr_left fun v hm => valAt_map ((mem_av5 hv).1 hm)⟩
    unfold rowFit
    rw [decide_eq_true_eq]
    exact List.map_congr_left fun v hm => valAt_map hm
theorem atomBd_ok {d : Dbd} {a : At} : VrOk (atomVR d a) := by
  have hlo : ∀ v ∈ avars 5 0 a.2, 0 ≤ v ∧ v ≤ 4 := fun v hv => by
    have := (mem_avars 5 0 _ _).1 hv
    omega
  have hasc := asc_avars 5 0 a.2
  unfold atomVR atomBd
  by_cases hc : atFit d a = true ∧ ∀ v ∈ a.2, 0 ≤ v ∧ v ≤ 4
  · rw [if_pos hc]
    obtain ⟨_, hT, hl⟩ := atFit_some hc.1
    have hr := rowsB_iff.1 hT.rel
    have hcnt := hT.cnt
    refine ⟨hasc, hlo, asc_len5 hasc hlo, rfl, ?_, fun r hr => ?_, fun r hrm => ?_, asc_sortR _⟩
    · refine Nat.le_trans (sortR_length _) ?_
      rw [List.length_map]
      refine Nat.le_trans (List.length_filter_le _ _) ?_
      simp only at hcnt ⊢
      omega
    · obtain ⟨row, _, rfl⟩ := List.mem_map.1 (mem_sortR.1 hr)
      simp
    · obtain ⟨row, h2, rfl⟩ := List.mem_map.1 (mem_sortR.1 hrm)
      rw [List.mem_filter] at h2
      have h3 := hr.2.2.2.1 row h2.1
      rw [rowV_iff]
      intro x hx
      obtain ⟨v, hv, rfl⟩ := List.mem_map.1 hx
      refine rowV_iff.1 h3.2 _ (valAt_mem ((mem_av5 hc.2).1 hv) ?_)
      have := h3.1
      simp only at this
      omega
  · rw [if_neg hc]
    exact ⟨hasc, hlo, asc_len5 hasc hlo, rfl, by simp, by simp, by simp, ascR_nil⟩
theorem atomBd_cnt {d : Dbd} {a : At} : (atomBd d a).2.length ≤ 16 := by
  unfold atomBd
  simp only
  split
  · rename_i hc
    obtain ⟨_, hT, _⟩ := atFit_some hc.1
    refine Nat.le_trans (sortR_length _) ?_
    rw [List.length_map]
    exact Nat.le_trans (List.length_filter_le _ _) hT.cnt
  · simp

/-! ### all bindings -/
/-- one atom's row laid over a row not yet whole -/
def fitX : List Int → List Int → List Int → Option (List Int)
  | x, v :: vs, y :: ys => if x.getD v.toNat 0 = -1 ∨ x.getD v.toNat 0 = y then fitX (x.set v.toNat y) vs ys else none
  | x, _, _ => some x
def walkL (d : Dbd) : List At → List Int → List (List Int)
  | [], row => [row]
  | a :: ats, row => (relOf d a).2.flatMap fun r => match fitX row a.2 r with | some x => walkL d ats x | none => []
def allB (d : Dbd) (q : Qd) : List (List Int) := sortR (walkL d q.2.1 (List.replicate q.1.toNat (-1)))
def bindR (d : Dbd) (q : Qd) : Option Rd := if iqfB d q = true ∧ (allB d q).length ≤ 4000 then some (q.1, allB d q) else none
/-- the program's way -/
def stepB (d : Dbd) (s : List Int × List (List Int)) (a : At) : List Int × List (List Int) := (uniL s.1 (avars 5 0 a.2), joinL (uniL s.1 (avars 5 0 a.2)) s.1 s.2 (avars 5 0 a.2) (atomBd d a).2)
def foldB (d : Dbd) (ats : List At) : List Int × List (List Int) := ats.foldl (stepB d) ([], [[]])

theorem getD_set_self {x : List Int} {i : Nat} {y : Int} (h : i < x.length) : (x.set i y).getD i 0 = y := by
  rw [getDl _ _ (by simpa using h)]; simp
theorem getD_set_ne {x : List Int} {i j : Nat} {y : Int} (h : i ≠ j) : (x.set i y).getD j 0 = x.getD j 0 := by
  simp only [List.getD_eq_getElem?_getD, List.getElem?_set, if_neg h]
/-- z is x, filled in further -/
def Over (x z : List Int) : Prop := z.length = x.length ∧ ∀ i, i < x.length → x.getD i 0 ≠ -1 → z.getD i 0 = x.getD i 0
theorem fitX_iff : ∀ {vs ys : List Int} {x z : List Int}, vs.length = ys.length → (∀ v ∈ vs, 0 ≤ v ∧ v < x.length) → (∀ y ∈ ys, y ≠ -1) →
    (fitX x vs ys = some z ↔ Over x z ∧ pickL z vs = ys ∧ ∀ i, i < x.length → x.getD i 0 = -1 → (i : Int) ∉ vs → z.getD i 0 = -1)
  | [], [], x, z, _, _, _ => by
    simp only [fitX, Option.some.injEq]
    constructor
    · rintro rfl
      exact ⟨⟨rfl, fun _ _ _ => rfl⟩, rfl, fun _ _ h _ => h⟩
    · rintro ⟨⟨h1, h2⟩, _, h3⟩
      apply List.ext_getElem h1.symm
      intro i h4 h5
      have e1 : x[i] = x.getD i 0 := (getDl _ _ h4).symm
      have e2 : z[i] = z.getD i 0 := (getDl _ _ h5).symm
      rw [e1, e2]
      by_cases h6 : x.getD i 0 = -1
      · rw [h6, h3 i h4 h6 (by simp)]
      · exact (h2 i h4 h6).symm
  | [], _ :: _, _, _, h, _, _ => by simp at h
  | _ :: _, [], _, _, h, _, _ => by simp at h
  | v :: vs, y :: ys, x, z, hl, hv, hy => by
    have hv0 := hv v (by simp)
    have hy0 := hy y (by simp)
    obtain ⟨n, rfl⟩ := Int.eq_ofNat_of_zero_le hv0.1
    have hn : n < x.length := by omega
    rw [fitX, Int.toNat_natCast]
    by_cases hc : x.getD n 0 = -1 ∨ x.getD n 0 = y
    · rw [if_pos hc, fitX_iff (x := x.set n y) (by simpa using hl) (by simpa using fun u hu => hv u (by simp [hu])) (fun u hu => hy u (by simp [hu]))]
      constructor
      · rintro ⟨⟨h1, h2⟩, h3, h4⟩
        rw [List.length_set] at h1 h2 h4
        have hz : z.getD n 0 = y := by
          rw [h2 n hn (by rw [getD_set_self hn]; exact hy0), getD_set_self hn]
        refine ⟨⟨h1, fun i hi hx => ?_⟩, ?_, fun i hi hx hm => ?_⟩
        · by_cases e : n = i
          · subst e
            rcases hc with hc | hc
            · exact absurd hc hx
            · rw [hz, hc]
          · have := h2 i hi (by rw [getD_set_ne e]; exact hx)
            rwa [getD_set_ne e] at this
        · unfold pickL at h3 ⊢
          rw [List.map_cons, h3, Int.toNat_natCast, hz]
        · rw [List.mem_cons, not_or] at hm
          have e : n ≠ i := fun e => hm.1 (by rw [e])
          exact h4 i hi (by rw [getD_set_ne e]; exact hx) hm.2
      · rintro ⟨⟨h1, h2⟩, h3, h4⟩
        unfold pickL at h3
        rw [List.map_cons, List.cons.injEq, Int.toNat_natCast] at h3
        refine ⟨⟨by rw [List.length_set]; exact h1, fun i hi hx => ?_⟩, h3.2, fun i hi hx hm => ?_⟩
        · rw [List.length_set] at hi
          by_cases e : n = i
          · subst e
            rw [getD_set_self hn]; exact h3.1
          · rw [getD_set_ne e] at hx ⊢
            exact h2 i hi hx
        · rw [List.length_set] at hi
          by_cases e : n = i
          · subst e
            rw [getD_set_self hn] at hx
            exact absurd hx hy0
          · rw [getD_set_ne e] at hx
            exact h4 i hi hx (by rw [List.mem_cons, not_or]; exact ⟨fun k => e (by omega), hm⟩)
    · rw [if_neg hc]
      constructor
      · intro h; cases h
      · rintro ⟨⟨h1, h2⟩, h3, h4⟩
        exfalso
        unfold pickL at h3
        rw [List.map_cons, List.cons.injEq, Int.toNat_natCast] at h3
        rw [not_or] at hc
        exact hc.2 (by rw [← h2 n hn hc.1, h3.1])
/-- every atom holds -/
def Holds (d : Dbd) (ats : List At) (z : List Int) : Prop := ∀ a ∈ ats, pickL z a.2 ∈ (relOf d a).2
theorem walkL_iff {d : Dbd} : ∀ {ats : List At} {x z : List Int}, (∀ a ∈ ats, atFit d a = true ∧ ∀ v ∈ a.2, 0 ≤ v ∧ v < x.length) →
    (z ∈ walkL d ats x ↔ Over x z ∧ Holds d ats z ∧ ∀ i, i < x.length → x.getD i 0 = -1 → (∀ a ∈ ats, (i : Int) ∉ a.2) → z.getD i 0 = -1)
  | [], x, z, _ => by
    rw [walkL, List.mem_singleton]
    have := fitX_iff (vs := []) (ys := []) (x := x) (z := z) rfl (by simp) (by simp)
    simp only [fitX, Option.some.injEq] at this
    rw [eq_comm, this]
    simp [Holds, pickL]
  | a :: ats, x, z, h => by
    obtain ⟨hf, hv⟩ := h a (by simp)
    obtain ⟨_, hT, hl⟩ := atFit_some hf
    have hr := (rowsB_iff.1 hT.rel).2.2.2.1
    simp only at hr
    rw [walkL, List.mem_flatMap]
    constructor
    · rintro ⟨r, hrm, hz⟩
      have h1 := hr r hrm
      have hfx := fun x' => fitX_iff (vs := a.2) (ys := r) (x := x) (z := x') (by omega) hv (fun y hy => by have := (rowV_iff.1 h1.2 y hy).1; omega)
      cases e : fitX x a.2 r with
      | none => rw [e] at hz; simp at hz
      | some x' =>
        rw [e] at hz
        obtain ⟨⟨o1, o2⟩, p1, u1⟩ := (hfx x').1 e
        have ih := (walkL_iff (d := d) (ats := ats) (x := x') (z := z) (fun b hb => by rw [o1]; exact h b (by simp [hb]))).1 hz
        obtain ⟨⟨q1, q2⟩, q3, q4⟩ := ih
        have hzx : ∀ i, i < x.length → x'.getD i 0 ≠ -1 → z.getD i 0 = x'.getD i 0 := fun i hi h => q2 i (by omega) h
        refine ⟨⟨by omega, fun i hi hx => ?_⟩, fun b hb => ?_, fun i hi hx hm => ?_⟩
        · rw [hzx i hi (by rw [o2 i hi hx]; exact hx), o2 i hi hx]
        · rcases List.mem_cons.1 hb with e | e
          · subst e
            have : pickL z b.2 = pickL x' b.2 := by
              unfold pickL
              refine List.map_congr_left fun v hvm => ?_
              have hb2 := hv v hvm
              refine hzx v.toNat (by omega) ?_
              have hp : x'.getD v.toNat 0 ∈ pickL x' b.2 := List.mem_map.2 ⟨v, hvm, rfl⟩
              rw [p1] at hp
              have := (rowV_iff.1 h1.2 _ hp).1
              omega
            rw [this, p1]
            exact hrm
          · exact q3 b e
        · refine q4 i (by omega) (u1 i hi hx (hm a (by simp))) fun b hb => hm b (by simp [hb])
    · rintro ⟨⟨o1, o2⟩, hH, u1⟩
      refine ⟨pickL z a.2, hH a (by simp), ?_⟩
      have h1 := hr _ (hH a (by simp))
      -- what is laid over x so far
      obtain ⟨x', hx'⟩ : ∃ x' : List Int, x' = (List.range x.length).map fun (i : Nat) => if (i : Int) ∈ a.2 then z.getD i 0 else x.getD i 0 := ⟨_, rfl⟩
      have hlx : x'.length = x.length := by rw [hx']; simp
      have hgx : ∀ i, i < x.length → x'.getD i 0 = if (i : Int) ∈ a.2 then z.getD i 0 else x.getD i 0 := fun i hi => by
        rw [hx', getDl _ _ (by simpa using hi)]; simp
      have e : fitX x a.2 (pickL z a.2) = some x' := by
        rw [fitX_iff (by simp [pickL]) hv (fun y hy => by have := (rowV_iff.1 h1.2 y hy).1; omega)]
        refine ⟨⟨hlx, fun i hi hx => ?_⟩, ?_, fun i hi hx hm => ?_⟩
        · rw [hgx i hi]; split
          · exact o2 i hi hx
          · rfl
        · unfold pickL
          refine List.map_congr_left fun v hvm => ?_
          have hb := hv v hvm
          rw [hgx _ (by omega), if_pos (by rw [Int.toNat_of_nonneg hb.1]; exact hvm)]
        · rw [hgx i hi, if_neg hm]; exact hx
      rw [e]
      rw [walkL_iff (fun b hb => by rw [hlx]; exact h b (by simp [hb]))]
      refine ⟨⟨by omega, fun i hi hx => ?_⟩, fun b hb => hH b (by simp [hb]), fun i hi hx hm => ?_⟩
      · rw [hlx] at hi
        rw [hgx i hi] at hx ⊢
        split
        · rfl
        · rename_i k
          rw [if_neg k] at hx
          exact o2 i hi hx
      · rw [hlx] at hi
        by_cases k : (i : Int) ∈ a.2
        · rw [hgx i hi, if_pos k] at hx; exact hx
        · rw [hgx i hi, if_neg k] at hx
          exact u1 i hi hx fun b hb => by
            rcases List.mem_cons.1 hb with e | e
            · subst e; exact k
            · exact hm b e

/-- what is known of a query that fits a database -/
structure QOk (d : Dbd) (q : Qd) : Prop where
  n1 : 1 ≤ q.1
  n5 : q.1 ≤ 5
  db : dbB d = true
  at1 : 1 ≤ q.2.1.length
  at4 : q.2.1.length ≤ 4
  fit : ∀ a ∈ q.2.1, atFit d a = true
  vars : ∀ a ∈ q.2.1, ∀ v ∈ a.2, 0 ≤ v ∧ v < q.1
  cov : ∀ v : Int, 0 ≤ v → v < q.1 → ∃ a ∈ q.2.1, v ∈ a.2
  out : ∀ v ∈ q.2.2, 0 ≤ v ∧ v < q.1
theorem mem_allB {d : Dbd} {q : Qd} (h : QOk d q) {z : List Int} : z ∈ allB d q ↔ (z.length : Int) = q.1 ∧ Holds d q.2.1 z := by
  have h1 := h.n1
  unfold allB
  rw [mem_sortR, walkL_iff (fun a ha => ⟨h.fit a ha, fun v hv => by have := h.vars a ha v hv; simp; omega⟩)]
  simp only [List.length_replicate]
  constructor
  · rintro ⟨⟨o1, _⟩, h2, _⟩
    rw [List.length_replicate] at o1
    exact ⟨by omega, h2⟩
  · rintro ⟨h2, h3⟩
    refine ⟨⟨by rw [List.length_replicate]; omega, fun i hi hx => ?_⟩, h3, fun i hi _ hm => ?_⟩
    · rw [List.length_replicate] at hi
      rw [getDl _ _ (by simpa using hi), List.getElem_replicate] at hx
      exact absurd rfl hx
    · obtain ⟨a, ha, hv⟩ := h.cov (i : Int) (by omega) (by omega)
      exact absurd hv (hm a ha)
def idV (n : Int) : List Int := (List.range n.toNat).map fun (i : Nat) => (i : Int)
theorem mem_idV {n v : Int} : v ∈ idV n ↔ 0 ≤ v ∧ v < n := by
  unfold idV
  rw [List.mem_map]
  constructor
  · rintro ⟨i, hi, rfl⟩
    have := List.mem_range.1 hi
    omega
  · rintro ⟨h1, h2⟩
    exact ⟨v.toNat, List.mem_range.2 (by omega), by omega⟩
theorem asc_idV (n : Int) : Asc (idV n) := List.pairwise_map.2 (List.Pairwise.imp (fun {a b} h => by omega) List.pairwise_lt_range)
theorem idV_get {n : Int} {g : Int → Int} {v : Int} (h : 0 ≤ v ∧ v < n) : ((idV n).map g).getD v.toNat 0 = g v := by
  unfold idV
  rw [List.map_map, getDl _ _ (by simp; omega)]
  simp [Int.toNat_of_nonneg h.1]
theorem pick_idV {n : Int} {g : Int → Int} {l : List Int} (h : ∀ v ∈ l, 0 ≤ v ∧ v < n) : pickL ((idV n).map g) l = l.map g := List.map_congr_left fun v hv => idV_get (h v hv)
theorem holds_map {d : Dbd} {q : Qd} (h : QOk d q) {g : Int → Int} : Holds d q.2.1 ((idV q.1).map g) ↔ ∀ a ∈ q.2.1, a.2.map g ∈ (relOf d a).2 := by
  unfold Holds
  constructor
  · intro hh a ha
    have := hh a ha
    rwa [pick_idV (h.vars a ha)] at this
  · intro hh a ha
    rw [pick_idV (h.vars a ha)]
    exact hh a ha
theorem row_map {n : Int} {z : List Int} (h : (z.length : Int) = n) : (idV n).map (fun v => z.getD v.toNat 0) = z := by
  subst h
  apply List.ext_getElem
  · simp [idV]
  · intro i h1 h2
    simp only [idV, List.map_map, List.getElem_map, List.getElem_range, Function.comp, Int.toNat_natCast]
    exact getDl _ _ h2
theorem allB_g {d : Dbd} {q : Qd} (h : QOk d q) {z : List Int} : z ∈ allB d q ↔ ∃ g : Int → Int, (idV q.1).map g = z ∧ ∀ a ∈ q.2.1, a.2.map g ∈ (relOf d a).2 := by
  rw [mem_allB h]
  constructor
  · rintro ⟨h1, h2⟩
    refine ⟨_, row_map h1, ?_⟩
    rw [← holds_map h, row_map h1]
    exact h2
  · rintro ⟨g, rfl, hg⟩
    have := h.n1
    exact ⟨by simp [idV]; omega, (holds_map h).2 hg⟩
theorem snoc_ind {α : Type} {P : List α → Prop} (h0 : P []) (h1 : ∀ l a, P l → P (l ++ [a])) (l : List α) : P l := by
  rw [← List.reverse_reverse l]
  induction l.reverse with
  | nil => exact h0
  | cons a l ih => rw [List.reverse_cons]; exact h1 _ _ ih
/-- the program's fold -/
theorem foldB_iff {d : Dbd} : ∀ {ats : List At}, (∀ a ∈ ats, atFit d a = true ∧ ∀ v ∈ a.2, 0 ≤ v ∧ v ≤ 4) →
    Asc (foldB d ats).1 ∧ (∀ v, v ∈ (foldB d ats).1 ↔ ∃ a ∈ ats, v ∈ a.2) ∧ ∀ t, t ∈ (foldB d ats).2 ↔ ∃ g : Int → Int, (foldB d ats).1.map g = t ∧ ∀ a ∈ ats, a.2.map g ∈ (relOf d a).2 := by
  intro ats
  induction ats using snoc_ind with
  | h0 =>
    intro _
    refine ⟨asc_nil, by simp [foldB], fun t => ?_⟩
    simp [foldB, eq_comm]
  | h1 ats a ih =>
    intro h
    obtain ⟨i1, i2, i3⟩ := ih fun b hb => h b (by simp [hb])
    obtain ⟨hf, hv⟩ := h a (by simp)
    have e : foldB d (ats ++ [a]) = stepB d (foldB d ats) a := by simp [foldB]
    obtain ⟨s, hs⟩ : ∃ s, foldB d ats = s := ⟨_, rfl⟩
    rw [hs] at i1 i2 i3 e
    rw [e]
    have hok := atomBd_ok (d := d) (a := a)
    have hm : ∀ v, v ∈ uniL s.1 (avars 5 0 a.2) ↔ ∃ b ∈ ats ++ [a], v ∈ b.2 := fun v => by
      rw [mem_uniL, i2, mem_av5 hv]
      simp only [List.mem_append, List.mem_singleton]
      constructor
      · rintro (⟨b, hb, k⟩ | k)
        · exact ⟨b, .inl hb, k⟩
        · exact ⟨a, .inr rfl, k⟩
      · rintro ⟨b, hb | rfl, k⟩
        · exact .inl ⟨b, hb, k⟩
        · exact .inr k
    refine ⟨asc_uniL i1, hm, fun t => ?_⟩
    unfold stepB
    simp only
    rw [mem_joinL (va := s.1) (ra := s.2) (vb := avars 5 0 a.2) (rb := (atomBd d a).2) (asc_nodup i1) (asc_nodup hok.asc) (fun r hr => by obtain ⟨g, rfl, _⟩ := (i3 r).1 hr; simp) (fun r hr => hok.rl r hr) (fun v hv => mem_uniL.1 hv)]
    constructor
    · rintro ⟨g, rfl, h1, h2⟩
      refine ⟨g, rfl, fun b hb => ?_⟩
      rcases List.mem_append.1 hb with hb | hb
      · obtain ⟨g', e', h3⟩ := (i3 _).1 h1
        have := map_at' e'
        rw [List.map_congr_left (g := g') fun v hvm => (this v ((i2 v).2 ⟨b, hb, hvm⟩)).symm]
        exact h3 b hb
      · obtain rfl := List.mem_singleton.1 hb
        obtain ⟨g', e', h3⟩ := (mem_atom hf hv).1 h2
        have := map_at' e'
        rw [List.map_congr_left (g := g') fun v hvm => (this v ((mem_av5 hv).2 hvm)).symm]
        exact h3
    · rintro ⟨g, rfl, hg⟩
      exact ⟨g, rfl, (i3 _).2 ⟨g, rfl, fun b hb => hg b (by simp [hb])⟩, (mem_atom hf hv).2 ⟨g, rfl, hg a (by simp)⟩⟩
theorem foldB_all {d : Dbd} {q : Qd} (h : QOk d q) : (foldB d q.2.1).1 = idV q.1 ∧ sortR (foldB d q.2.1).2 = allB d q := by
  have h5 := h.n5
  obtain ⟨h1, h2, h3⟩ := foldB_iff (d := d) (ats := q.2.1) fun a ha => ⟨h.fit a ha, fun v hv => by have := h.vars a ha v hv; omega⟩
  have e : (foldB d q.2.1).1 = idV q.1 := asc_ext h1 (asc_idV _) fun v => by
    rw [h2, mem_idV]
    constructor
    · rintro ⟨a, ha, hv⟩; exact h.vars a ha v hv
    · rintro ⟨k1, k2⟩; exact h.cov v k1 k2
  refine ⟨e, ?_⟩
  refine ascR_ext (asc_sortR _) (asc_sortR _) fun t => ?_
  rw [mem_sortR, h3, e]
  exact (allB_g h).symm
end Go.Proofs.Ytfigcfajkilhiaa

/- Queries that fit a database: the program's way and the reference's. -/
namespace Go.Proofs.Ytfigcfajkilhiaa
open Go.RowKit

def fitO (o : Option Rd) (n : Nat) : Bool := match o with | some r => decide (r.1 = (n : Int)) | none => false
theorem atFit_look {d : Dbd} {a : At} {o : Option Rd} (h : lookD d a.1 = o) : atFit d a = fitO o a.2.length := by
  subst h
  rfl
theorem fitL_step {d : Dbd} {l : List At} {k : Nat} (h : k < l.length) : (l.drop k).all (atFit d) = (atFit d l[k] && (l.drop (k + 1)).all (atFit d)) := by
  rw [List.drop_eq_getElem_cons h, List.all_cons]
theorem fitL_end {d : Dbd} {l : List At} {k : Nat} (h : ¬ k < l.length) : (l.drop k).all (atFit d) = true := by
  rw [List.drop_eq_nil_of_le (by omega)]; rfl
/-- what is known where a relation was looked up into a fresh box -/
def CutR (o : Option Rd) (W : World) (va vb : Value) (wx : World) : Prop := ∃ b A c, va = .pointer (some ⟨b, 0, none⟩) ∧ vb = .bool o.isSome ∧ BoxAt wx b #[.int .i64 (o.getD (0, [])).1, .slice A (o.getD (0, [])).2.length c] ∧ RII wx A (o.getD (0, [])).2 ∧ W.heap.size ≤ b ∧ ∃ y, wx = ext W y
/-- sizes of what is looked up -/
theorem look_w {d : Dbd} (h : WDb d) {name : ByteArray} {r : Rd} (hl : lookD d name = some r) : r.2.length ≤ 1000000000 ∧ ∀ x ∈ r.2, x.length ≤ 1000000000 := by
  unfold lookD at hl
  split at hl
  · have := fndD_mem hl
    exact ⟨h.rn _ this, h.rl _ this⟩
  · cases hl
set_option maxRecDepth 100000 in
set_option maxHeartbeats 16000000 in
theorem IsQueryFor_any {A B C : Option Addr} {c e g : Nat} {d : Dbd} {q : Qd} {w : World} (hd : WDb d) (h1 : RV 3 vTb w A d) (hb : BQ q) (h2 : vQ w [.int .i64 q.1, .slice B q.2.1.length e, .slice C q.2.2.length g] q) :
    Calls Try.prog 74 #[.agg #[.slice A d.length c], .agg #[.int .i64 q.1, .slice B q.2.1.length e, .slice C q.2.2.length g]] w fun e w' => e = .returned (.bool (iqfB d q)) ∧ ∃ y, w' = ext w y := by
  have HD := Lib.hid hd
  have HB := Lib.hid hb
  have HV := Lib.hid h2
  have h3 := (vAts_get (vQ_get h2).1).2
  have hal := hb.2.1.1
  obtain ⟨t1, ht1⟩ : ∃ t, vqB q = t := ⟨_, rfl⟩
  obtain ⟨t2, ht2⟩ : ∃ t, dbB d = t := ⟨_, rfl⟩
  have HT1 := Lib.hid ht1
  have HT2 := Lib.hid ht2
  have HE := Lib.hid (show iqfB d q = (t1 && t2 && q.2.1.all (atFit d)) by unfold iqfB; rw [ht1, ht2])
  clear hd hb h2 ht1 ht2
  go_enter Try.func74, Try.ntmps74
  go_upto_region 1 with fail
  refine wp_name ?_
  intro W hW
  have xW : ∃ y, W = ext w y := by rw [hW.out]; exact (by refine Chg.isExt (F := []) ?_ (refl_ext _) (by simp); repeat (with_reducible (first | exact Chg.refl _ _ | exact Nat.le_refl _ | exact Chg.ofExt (by assumption) | refine Chg.trans0 ?_ (by assumption) | refine Chg.extS ?_ _ | refine Chg.alloc ?_ _ | refine Chg.drew ?_ | refine Chg.setCellE ?_ ?_ _ | refine le_addk ?_ _ | refine le_ext ?_ | refine le_alloc ?_ _ | refine le_setC ?_ _ _ | refine le_drew ?_ | assumption | (refine Nat.le_of_lt ?_; omega) | omega)))
  have PW : BoxAt W w.heap.size #[.slice A d.length c] := by rw [hW.out]; exact (by repeat (with_reducible (first | assumption | exact BoxAt.new _ _ _ | apply BoxAt.set10 | apply BoxAt.set2 | refine BoxAt.set2' ?_ (by omega) | apply BoxAt.setP0 | apply BoxAt.setP1 | refine BoxAt.setO ?_ (by omega) | refine BoxAt.alloc ?_ _ | refine BoxAt.drew ?_ | refine BoxAt.toExt ?_ (by assumption))))
  have QW : BoxAt W (w.heap.size + 1) #[.int .i64 q.1, .slice B q.2.1.length e, .slice C q.2.2.length g] := by
    rw [hW.out]
    simpa using BoxAt.new (w.alloc (.cells #[.slice A d.length c] 29)) #[.int .i64 q.1, .slice B q.2.1.length e, .slice C q.2.2.length g] 55
  obtain ⟨lq, q0, q1, q2, fq⟩ := box3 QW
  clear hW
  cases t1 with
  | false =>
    go_wp2_with (go_at_call 156; refine (IsValidQuery_any HB.out (VD.toExt HV.out xW)).mono ?_; rintro e w1 ⟨rfl, hx1⟩; rw [HT1.out])
    go_ret
    exact ⟨by rw [HE.out]; rfl, (by refine Chg.isExt (F := []) ?_ (refl_ext _) (by simp); repeat (with_reducible (first | exact Chg.refl _ _ | exact Nat.le_refl _ | exact Chg.ofExt (by assumption) | refine Chg.trans0 ?_ (by assumption) | refine Chg.extS ?_ _ | refine Chg.alloc ?_ _ | refine Chg.drew ?_ | refine Chg.setCellE ?_ ?_ _ | refine le_addk ?_ _ | refine le_ext ?_ | refine le_alloc ?_ _ | refine le_setC ?_ _ _ | refine le_drew ?_ | assumption | (refine Nat.le_of_lt ?_; omega) | omega)))⟩
  | true =>
    cases t2 with
    | false =>
      go_wp2_with (first
        | (go_at_call 156; refine (IsValidQuery_any HB.out (VD.toExt HV.out xW)).mono ?_; rintro e w1 ⟨rfl, hx1⟩; rw [HT1.out]; obtain ⟨lp1, p10, fp1⟩ := bx1 (PW.toExt hx1))
        | (go_at_call 63; refine (IsValidDatabase_w HD.out (h1.toExt (trans_ext xW hx1))).mono ?_; rintro e w2 ⟨rfl, hx2⟩; rw [HT2.out]))
      go_ret
      exact ⟨by rw [HE.out]; rfl, (by refine Chg.isExt (F := []) ?_ (refl_ext _) (by simp); repeat (with_reducible (first | exact Chg.refl _ _ | exact Nat.le_refl _ | exact Chg.ofExt (by assumption) | refine Chg.trans0 ?_ (by assumption) | refine Chg.extS ?_ _ | refine Chg.alloc ?_ _ | refine Chg.drew ?_ | refine Chg.setCellE ?_ ?_ _ | refine le_addk ?_ _ | refine le_ext ?_ | refine le_alloc ?_ _ | refine le_setC ?_ _ _ | refine le_drew ?_ | assumption | (refine Nat.le_of_lt ?_; omega) | omega)))⟩
    | true =>
      have HE2 := Lib.hid (show iqfB d q = q.2.1.all (atFit d) by rw [HE.out]; rfl)
      go_upto_region 3 with (first
        | (go_at_call 156; refine (IsValidQuery_any HB.out (VD.toExt HV.out xW)).mono ?_; rintro e w1 ⟨rfl, hx1⟩; rw [HT1.out]; obtain ⟨lp1, p10, fp1⟩ := bx1 (PW.toExt hx1))
        | (go_at_call 63; refine (IsValidDatabase_w HD.out (h1.toExt (trans_ext xW hx1))).mono ?_; rintro e w2 ⟨rfl, hx2⟩; rw [HT2.out]))
      have x2 := trans_ext hx1 hx2
      have xw2 := trans_ext xW x2
      have P2 := PW.toExt x2
      have Q2 := QW.toExt x2
      obtain ⟨lq2, q20, q21, q22, fq2⟩ := box3 Q2
      clear lq q0 q1 q2 fq lp1 p10 fp1 PW QW HB HV
      go_wp2_with fail
      clear lq2 q20 q21 q22 fq2
      go_loopw [20] (fun i wr => ∃ k : Nat, i = .int .i64 k ∧ k ≤ q.2.1.length ∧ (∃ y, wr = ext w2 y) ∧ Hid ((q.2.1.drop k).all (atFit d) = q.2.1.all (atFit d))) (fun i _ => q.2.1.length - (intOf i).toNat)
      case atStart => exact ⟨0, rfl, by omega, refl_ext w2, Lib.hid (by simp)⟩
      case round =>
        obtain ⟨k, rfl, hk, hy, Hj⟩ := hrel
        have hyw := trans_ext xw2 hy
        have P3 := P2.toExt hy
        obtain ⟨lp3, p30, fp3⟩ := bx1 P3
        by_cases hlt : k < q.2.1.length
        · obtain ⟨b, o, A1, c1, rfl, hbb, hc, hc1, hv⟩ := (h3.toExt hyw).atA hlt
          have e := Hj.out
          rw [fitL_step hlt] at e
          obtain ⟨x, hx⟩ : ∃ x, q.2.1[k] = x := ⟨_, rfl⟩
          rw [hx] at e hc hc1 hv
          obtain ⟨o, ho⟩ : ∃ o, lookD d x.1 = o := ⟨_, rfl⟩
          have HO := Lib.hid ho
          rw [atFit_look ho] at e
          clear hx ho hv
          cases o with
          | none =>
            have HF := Lib.hid (show q.2.1.all (atFit d) = false by rw [← e]; rfl)
            clear e
            go_wp2_with (go_at_call 147; refine (LookupRelation_any HD.out (h1.toExt (trans_ext hyw (by refine Chg.isExt (F := []) ?_ (refl_ext _) (by simp); repeat (with_reducible (first | exact Chg.refl _ _ | exact Nat.le_refl _ | exact Chg.ofExt (by assumption) | refine Chg.trans0 ?_ (by assumption) | refine Chg.extS ?_ _ | refine Chg.alloc ?_ _ | refine Chg.drew ?_ | refine Chg.setCellE ?_ ?_ _ | refine le_addk ?_ _ | refine le_ext ?_ | refine le_alloc ?_ _ | refine le_setC ?_ _ _ | refine le_drew ?_ | assumption | (refine Nat.le_of_lt ?_; omega) | omega)))))).mono ?_; rw [HO.out]; rintro e w3 ⟨u0, u1, F3, rfl, hx3, hS3, hN3, hF3⟩; obtain ⟨A3, c3, rfl, rfl, _⟩ := sRel_form hS3)
            go_ret
            exact ⟨by rw [HE2.out, HF.out]; rfl, (by refine Chg.isExt (F := []) ?_ (refl_ext _) (by simp); repeat (with_reducible (first | exact Chg.refl _ _ | exact Nat.le_refl _ | exact Chg.ofExt (by assumption) | refine Chg.trans0 ?_ (by assumption) | refine Chg.extS ?_ _ | refine Chg.alloc ?_ _ | refine Chg.drew ?_ | refine Chg.setCellE ?_ ?_ _ | refine le_addk ?_ _ | refine le_ext ?_ | refine le_alloc ?_ _ | refine le_setC ?_ _ _ | refine le_drew ?_ | assumption | (refine Nat.le_of_lt ?_; omega) | omega)))⟩
          | some r =>
            by_cases hr : r.1 = (x.2.length : Int)
            · rw [show fitO (some r) x.2.length = true from decide_eq_true hr] at e
              have HK := Lib.hid (show (q.2.1.drop (k + 1)).all (atFit d) = q.2.1.all (atFit d) by rw [← e]; rfl)
              have hne : (r.1 != (x.2.length : Int)) = false := by simpa using hr
              clear e hr
              go_wp2_with (go_at_call 147; refine (LookupRelation_any HD.out (h1.toExt (trans_ext hyw (by refine Chg.isExt (F := []) ?_ (refl_ext _) (by simp); repeat (with_reducible (first | exact Chg.refl _ _ | exact Nat.le_refl _ | exact Chg.ofExt (by assumption) | refine Chg.trans0 ?_ (by assumption) | refine Chg.extS ?_ _ | refine Chg.alloc ?_ _ | refine Chg.drew ?_ | refine Chg.setCellE ?_ ?_ _ | refine le_addk ?_ _ | refine le_ext ?_ | refine le_alloc ?_ _ | refine le_setC ?_ _ _ | refine le_drew ?_ | assumption | (refine Nat.le_of_lt ?_; omega) | omega)))))).mono ?_; rw [HO.out]; rintro e w3 ⟨u0, u1, F3, rfl, hx3, hS3, hN3, hF3⟩; obtain ⟨A3, c3, rfl, rfl, _⟩ := sRel_form hS3; have T3 : BoxAt w3 wr.heap.size #[.string x.1, .slice A1 x.2.length c1] := (by repeat (with_reducible (first | assumption | exact BoxAt.new _ _ _ | apply BoxAt.set2 | refine BoxAt.set2' ?_ (by omega) | apply BoxAt.setP0 | apply BoxAt.setP1 | refine BoxAt.setO ?_ (by omega) | refine BoxAt.alloc ?_ _ | refine BoxAt.drew ?_ | refine BoxAt.toExt ?_ (by assumption)))); obtain ⟨lt3, t30, t31, ft3⟩ := bx2 T3; simp only [Option.getD_some] at *)
              exact ⟨⟨k + 1, by go_num, by omega, (by refine Chg.isExt (F := []) ?_ (refl_ext _) (by simp); repeat (with_reducible (first | exact Chg.refl _ _ | exact Nat.le_refl _ | exact Chg.ofExt (by assumption) | refine Chg.trans0 ?_ (by assumption) | refine Chg.extS ?_ _ | refine Chg.alloc ?_ _ | refine Chg.drew ?_ | refine Chg.setCellE ?_ ?_ _ | refine le_addk ?_ _ | refine le_ext ?_ | refine le_alloc ?_ _ | refine le_setC ?_ _ _ | refine le_drew ?_ | assumption | (refine Nat.le_of_lt ?_; omega) | omega))), HK⟩, by simp [intOf]; omega⟩
            · rw [show fitO (some r) x.2.length = false from decide_eq_false hr] at e
              have HF := Lib.hid (show q.2.1.all (atFit d) = false by rw [← e]; rfl)
              have hne : (r.1 != (x.2.length : Int)) = true := by simpa using hr
              clear e hr
              go_wp2_with (go_at_call 147; refine (LookupRelation_any HD.out (h1.toExt (trans_ext hyw (by refine Chg.isExt (F := []) ?_ (refl_ext _) (by simp); repeat (with_reducible (first | exact Chg.refl _ _ | exact Nat.le_refl _ | exact Chg.ofExt (by assumption) | refine Chg.trans0 ?_ (by assumption) | refine Chg.extS ?_ _ | refine Chg.alloc ?_ _ | refine Chg.drew ?_ | refine Chg.setCellE ?_ ?_ _ | refine le_addk ?_ _ | refine le_ext ?_ | refine le_alloc ?_ _ | refine le_setC ?_ _ _ | refine le_drew ?_ | assumption | (refine Nat.le_of_lt ?_; omega) | omega)))))).mono ?_; rw [HO.out]; rintro e w3 ⟨u0, u1, F3, rfl, hx3, hS3, hN3, hF3⟩; obtain ⟨A3, c3, rfl, rfl, _⟩ := sRel_form hS3; have T3 : BoxAt w3 wr.heap.size #[.string x.1, .slice A1 x.2.length c1] := (by repeat (with_reducible (first | assumption | exact BoxAt.new _ _ _ | apply BoxAt.set2 | refine BoxAt.set2' ?_ (by omega) | apply BoxAt.setP0 | apply BoxAt.setP1 | refine BoxAt.setO ?_ (by omega) | refine BoxAt.alloc ?_ _ | refine BoxAt.drew ?_ | refine BoxAt.toExt ?_ (by assumption)))); obtain ⟨lt3, t30, t31, ft3⟩ := bx2 T3; simp only [Option.getD_some] at *)
              go_ret
              exact ⟨by rw [HE2.out, HF.out]; rfl, (by refine Chg.isExt (F := []) ?_ (refl_ext _) (by simp); repeat (with_reducible (first | exact Chg.refl _ _ | exact Nat.le_refl _ | exact Chg.ofExt (by assumption) | refine Chg.trans0 ?_ (by assumption) | refine Chg.extS ?_ _ | refine Chg.alloc ?_ _ | refine Chg.drew ?_ | refine Chg.setCellE ?_ ?_ _ | refine le_addk ?_ _ | refine le_ext ?_ | refine le_alloc ?_ _ | refine le_setC ?_ _ _ | refine le_drew ?_ | assumption | (refine Nat.le_of_lt ?_; omega) | omega)))⟩
        · have e := Hj.out
          rw [fitL_end hlt] at e
          have HK := Lib.hid (show iqfB d q = true by rw [HE2.out, ← e])
          clear e Hj
          go_wp2
          go_ret
          exact ⟨by rw [HK.out]; rfl, hyw⟩
set_option maxRecDepth 100000 in
set_option maxHeartbeats 16000000 in
theorem specIsQueryFor_any {A B C : Option Addr} {c e g : Nat} {d : Dbd} {q : Qd} {w : World} (hd : WDb d) (h1 : RV 3 vTb w A d) (hb : BQ q) (h2 : vQ w [.int .i64 q.1, .slice B q.2.1.length e, .slice C q.2.2.length g] q) :
    Calls Try.prog 75 #[.agg #[.slice A d.length c], .agg #[.int .i64 q.1, .slice B q.2.1.length e, .slice C q.2.2.length g]] w fun e w' => e = .returned (.bool (iqfB d q)) ∧ ∃ y, w' = ext w y := by
  have HD := Lib.hid hd
  have HB := Lib.hid hb
  have HV := Lib.hid h2
  have h3 := (vAts_get (vQ_get h2).1).2
  have hal := hb.2.1.1
  obtain ⟨t1, ht1⟩ : ∃ t, vqB q = t := ⟨_, rfl⟩
  obtain ⟨t2, ht2⟩ : ∃ t, dbB d = t := ⟨_, rfl⟩
  have HT1 := Lib.hid ht1
  have HT2 := Lib.hid ht2
  have HE := Lib.hid (show iqfB d q = (t1 && t2 && q.2.1.all (atFit d)) by unfold iqfB; rw [ht1, ht2])
  have HF := Lib.hid (fun (h : q.2.1.all (atFit d) = false) => show iqfB d q = false by unfold iqfB; rw [h, Bool.and_false])
  clear hd hb h2 ht1 ht2
  go_enter Try.func75, Try.ntmps75
  go_upto_region 1 with fail
  refine wp_name ?_
  intro W hW
  have xW : ∃ y, W = ext w y := by rw [hW.out]; exact (by refine Chg.isExt (F := []) ?_ (refl_ext _) (by simp); repeat (with_reducible (first | exact Chg.refl _ _ | exact Nat.le_refl _ | exact Chg.ofExt (by assumption) | refine Chg.trans0 ?_ (by assumption) | refine Chg.extS ?_ _ | refine Chg.alloc ?_ _ | refine Chg.drew ?_ | refine Chg.setCellE ?_ ?_ _ | refine le_addk ?_ _ | refine le_ext ?_ | refine le_alloc ?_ _ | refine le_setC ?_ _ _ | refine le_drew ?_ | assumption | (refine Nat.le_of_lt ?_; omega) | omega)))
  have PW : BoxAt W w.heap.size #[.slice A d.length c] := by rw [hW.out]; exact (by repeat (with_reducible (first | assumption | exact BoxAt.new _ _ _ | apply BoxAt.set10 | apply BoxAt.set2 | refine BoxAt.set2' ?_ (by omega) | apply BoxAt.setP0 | apply BoxAt.setP1 | refine BoxAt.setO ?_ (by omega) | refine BoxAt.alloc ?_ _ | refine BoxAt.drew ?_ | refine BoxAt.toExt ?_ (by assumption))))
  have QW : BoxAt W (w.heap.size + 1) #[.int .i64 q.1, .slice B q.2.1.length e, .slice C q.2.2.length g] := by
    rw [hW.out]
    simpa using BoxAt.new (w.alloc (.cells #[.slice A d.length c] 29)) #[.int .i64 q.1, .slice B q.2.1.length e, .slice C q.2.2.length g] 55
  clear hW
  go_wp2_with fail
  go_loopw [5] (fun i wr => ∃ k : Nat, i = .int .i64 k ∧ k ≤ q.2.1.length ∧ (∃ y, wr = ext W y) ∧ Hid ((q.2.1.drop k).all (atFit d) = q.2.1.all (atFit d))) (fun i _ => q.2.1.length - (intOf i).toNat)
  case atStart => exact ⟨0, rfl, by omega, refl_ext W, Lib.hid (by simp)⟩
  case round =>
    obtain ⟨k, rfl, hk, hy, Hj⟩ := hrel
    have hyw := trans_ext xW hy
    have P3 := PW.toExt hy
    have Q3 := QW.toExt hy
    obtain ⟨lp3, p30, fp3⟩ := bx1 P3
    obtain ⟨lq3, q30, q31, q32, fq3⟩ := box3 Q3
    by_cases hlt : k < q.2.1.length
    · obtain ⟨b, o, A1, c1, rfl, hbb, hc, hc1, hv⟩ := (h3.toExt hyw).atA hlt
      have e := Hj.out
      rw [fitL_step hlt] at e
      obtain ⟨x, hx⟩ : ∃ x, q.2.1[k] = x := ⟨_, rfl⟩
      rw [hx] at e hc hc1 hv
      obtain ⟨o, ho⟩ : ∃ o, lookD d x.1 = o := ⟨_, rfl⟩
      have HO := Lib.hid ho
      rw [atFit_look ho] at e
      clear hx ho hv
      go_upto_region 4 with fail
      go_cut [6, 7] (CutR o wr)
      case first =>
        go_region_held3 (fun w' => (∀ a : Addr, a.block < wr.heap.size → w'.cell? a = wr.cell? a) ∧ ∃ y, w' = ext wr y) (first | exact heldE (by refine Chg.isExt (F := []) ?_ (refl_ext _) (by simp); repeat (with_reducible (first | exact Chg.refl _ _ | exact Nat.le_refl _ | exact Chg.ofExt (by assumption) | refine Chg.trans0 ?_ (by assumption) | refine Chg.extS ?_ _ | refine Chg.alloc ?_ _ | refine Chg.drew ?_ | refine Chg.setCellE ?_ ?_ _ | refine le_addk ?_ _ | refine le_ext ?_ | refine le_alloc ?_ _ | refine le_setC ?_ _ _ | refine le_drew ?_ | assumption | (refine Nat.le_of_lt ?_; omega) | omega)))) ((go_at_call 71; refine (specLookupRelation_any HD.out (h1.toExt (trans_ext hyw (by refine Chg.isExt (F := []) ?_ (refl_ext _) (by simp); repeat (with_reducible (first | exact Chg.refl _ _ | exact Nat.le_refl _ | exact Chg.ofExt (by assumption) | refine Chg.trans0 ?_ (by assumption) | refine Chg.extS ?_ _ | refine Chg.alloc ?_ _ | refine Chg.drew ?_ | refine Chg.setCellE ?_ ?_ _ | refine le_addk ?_ _ | refine le_ext ?_ | refine le_alloc ?_ _ | refine le_setC ?_ _ _ | refine le_drew ?_ | assumption | (refine Nat.le_of_lt ?_; omega) | omega)))))).mono ?_; rw [HO.out]; rintro e w3 ⟨u0, u1, F3, rfl, hx3, hS3, hN3, hF3⟩; obtain ⟨A3, c3, rfl, rfl, hI3⟩ := sRel_form hS3; (first | (have L3 : BoxAt w3 wr.heap.size #[.int .i64 0, .slice none 0 0] := BoxAt.toExt (BoxAt.new wr _ _) hx3; obtain ⟨z1, z2, z3, z4⟩ := bx2 L3) | (have L3 : BoxAt w3 wr.heap.size #[.int .i64 0, .slice none 0 0] := BoxAt.toExt (BoxAt.new wr.drew _ _) hx3; obtain ⟨z1, z2, z3, z4⟩ := bx2 L3) | (have L3 : BoxAt w3 wr.heap.size #[.int .i64 0, .slice none 0 0] := BoxAt.toExt (BoxAt.new wr _ _).drew hx3; obtain ⟨z1, z2, z3, z4⟩ := bx2 L3) | skip)))
        all_goals
          go_wp2_with fail
          go_meet
          have hz3 := size_of_ext hx3
          (first | simp only [World.size_alloc, World.drew] at hz3 hF3 | simp only [World.drew] at hz3 hF3)
          first
            | exact ⟨w3.heap.size, A3, c3, rfl, rfl, BoxAt.new _ _ _, (vII_get (sII_v _ _ _ (OD.toExt hI3 (alloc_ext _ _)))).2, by omega, (by refine Chg.isExt (F := []) ?_ (refl_ext _) (by simp); repeat (with_reducible (first | exact Chg.refl _ _ | exact Nat.le_refl _ | exact Chg.ofExt (by assumption) | refine Chg.trans0 ?_ (by assumption) | refine Chg.extS ?_ _ | refine Chg.alloc ?_ _ | refine Chg.drew ?_ | refine Chg.setCellE ?_ ?_ _ | refine le_addk ?_ _ | refine le_ext ?_ | refine le_alloc ?_ _ | refine le_setC ?_ _ _ | refine le_drew ?_ | assumption | (refine Nat.le_of_lt ?_; omega) | omega)))⟩
            | exact ⟨wr.heap.size, A3, c3, rfl, rfl, (by repeat (with_reducible (first | assumption | exact BoxAt.new _ _ _ | apply BoxAt.set2 | refine BoxAt.set2' ?_ (by omega) | apply BoxAt.setP0 | apply BoxAt.setP1 | refine BoxAt.setO ?_ (by omega) | refine BoxAt.alloc ?_ _ | refine BoxAt.drew ?_ | refine BoxAt.toExt ?_ (by assumption)))), (vII_get (sII_v _ _ _ (OD.chg (G := [wr.heap.size]) hI3 (by repeat (with_reducible (first | exact Chg.refl _ _ | refine Chg.trans0 ?_ (by assumption) | refine Chg.extS ?_ _ | refine Chg.alloc ?_ _ | refine Chg.drew ?_ | refine Chg.setCell ?_ (.inl (by simp)) _))) (fun x hx hm => by have := hF3 x hx; rw [List.mem_singleton.1 hm] at this; omega)))).2, by omega, (by refine Chg.isExt (F := []) ?_ (refl_ext _) (by simp); repeat (with_reducible (first | exact Chg.refl _ _ | exact Nat.le_refl _ | exact Chg.ofExt (by assumption) | refine Chg.trans0 ?_ (by assumption) | refine Chg.extS ?_ _ | refine Chg.alloc ?_ _ | refine Chg.drew ?_ | refine Chg.setCellE ?_ ?_ _ | refine le_addk ?_ _ | refine le_ext ?_ | refine le_alloc ?_ _ | refine le_setC ?_ _ _ | refine le_drew ?_ | assumption | (refine Nat.le_of_lt ?_; omega) | omega)))⟩
      obtain ⟨bX, A3, c3, rfl, rfl, BX, hvX, hbX, hxX⟩ := hcut
      obtain ⟨w4, rfl⟩ : ∃ W, W = wc := ⟨_, rfl⟩
      have hyw4 := trans_ext hyw hxX
      have hc4 := cellW hxX hbb hc
      have hc14 := cellW hxX hbb hc1
      have hb4 := ltW hxX hbb
      obtain ⟨lq4, q40, q41, q42, fq4⟩ := box3 (Q3.toExt hxX)
      obtain ⟨lx4, x40, x41, fx4⟩ := bx2 BX
      clear lq3 q30 q31 q32 fq3 lp3 p30 fp3 hc hc1 hbb
      cases o with
      | none =>
        have HF2 := Lib.hid (HF.out (by rw [← e]; rfl))
        clear e
        go_wp2_with fail
        refine wp_region_ext (by kernel_rfl) (by kernel_rfl) ?_
        repeat (go_big_quiet_step (fail))
        refine wpQuiet_nil ?_
        rintro _ ⟨zz, rfl⟩
        go_wp2
        go_ret
        exact ⟨by rw [HF2.out]; rfl, trans_ext hyw4 ⟨_, rfl⟩⟩
      | some r =>
        simp only [Option.getD_some] at x40 x41
        by_cases hr : r.1 = (x.2.length : Int)
        · rw [show fitO (some r) x.2.length = true from decide_eq_true hr] at e
          have HK := Lib.hid (show (q.2.1.drop (k + 1)).all (atFit d) = q.2.1.all (atFit d) by rw [← e]; rfl)
          have hne : (r.1 != (x.2.length : Int)) = false := by simpa using hr
          clear e hr
          go_wp2_with fail
          refine wp_region_ext (by kernel_rfl) (by kernel_rfl) ?_
          repeat (go_big_quiet_step (fail))
          refine wpQuiet_nil ?_
          rintro _ ⟨zz, rfl⟩
          go_wp2
          exact ⟨⟨k + 1, by go_num, by omega, trans_ext (trans_ext hy hxX) ⟨_, rfl⟩, HK⟩, by simp [intOf]; omega⟩
        · rw [show fitO (some r) x.2.length = false from decide_eq_false hr] at e
          have HF2 := Lib.hid (HF.out (by rw [← e]; rfl))
          have hne : (r.1 != (x.2.length : Int)) = true := by simpa using hr
          clear e hr
          go_wp2_with fail
          refine wp_region_ext (by kernel_rfl) (by kernel_rfl) ?_
          repeat (go_big_quiet_step (fail))
          refine wpQuiet_nil ?_
          rintro _ ⟨zz, rfl⟩
          go_wp2
          go_ret
          exact ⟨by rw [HF2.out]; rfl, trans_ext hyw4 ⟨_, rfl⟩⟩
    · have e := Hj.out
      rw [fitL_end hlt] at e
      have HK := Lib.hid (show iqfB d q = (t1 && t2) by rw [HE.out, ← e, Bool.and_true])
      clear e Hj
      cases t1 with
      | false =>
        go_wp2_with (go_at_call 157; refine (specIsValidQuery_any HB.out (VD.toExt HV.out hyw)).mono ?_; rintro e w1 ⟨rfl, hx1⟩; rw [HT1.out])
        go_ret
        exact ⟨by rw [HK.out]; rfl, trans_ext hyw hx1⟩
      | true =>
        cases t2
        all_goals
          go_wp2_with (first
            | (go_at_call 157; refine (specIsValidQuery_any HB.out (VD.toExt HV.out hyw)).mono ?_; rintro e w1 ⟨rfl, hx1⟩; rw [HT1.out]; obtain ⟨lp1, p10, fp1⟩ := bx1 (P3.toExt hx1))
            | (go_at_call 60; refine (specIsValidDatabase_w HD.out (h1.toExt (trans_ext hyw hx1))).mono ?_; rintro e w2 ⟨rfl, hx2⟩; rw [HT2.out]))
          go_ret
          exact ⟨by rw [HK.out]; rfl, trans_ext hyw (trans_ext hx1 hx2)⟩
end Go.Proofs.Ytfigcfajkilhiaa

/- What is known of a query that fits a database. No program in it. -/
namespace Go.Proofs.Ytfigcfajkilhiaa
open Go.RowKit
theorem qok {d : Dbd} {q : Qd} (h : iqfB d q = true) : QOk d q := by
  unfold iqfB at h
  simp only [Bool.and_eq_true] at h
  obtain ⟨⟨h1, h2⟩, h3⟩ := h
  obtain ⟨v1, v2, v3⟩ := vqB_vars h1
  have h4 := h1
  unfold vqB at h4
  simp only [Bool.and_eq_true] at h4
  obtain ⟨⟨⟨⟨_, k2⟩, k3⟩, _⟩, k5⟩ := h4
  have b2 := inB_t k2
  have k3 := (setB_sound k3).1
  refine ⟨v1, v2, h2, by omega, by omega, fun a ha => (List.all_eq_true.1 h3) a ha, v3, fun v h0 hl => ?_, fun v hv => by have := k3 v hv; omega⟩
  unfold coverB mkU at k5
  rw [List.all_eq_true] at k5
  have := k5 (decide ((v.toNat : Int) ∈ seen q.2.1)) (List.mem_map.2 ⟨v.toNat, List.mem_range.2 (by omega), rfl⟩)
  have := of_decide_eq_true this
  rw [Int.toNat_of_nonneg h0] at this
  unfold seen at this
  obtain ⟨a, ha, hv⟩ := List.mem_flatMap.1 this
  exact ⟨a, ha, hv⟩
theorem atFit_get {d : Dbd} {a : At} (h : atFit d a = true) : lookD d a.1 = some (relOf d a) := by
  unfold atFit at h
  unfold relOf
  cases e : lookD d a.1 with
  | none => rw [e] at h; cases h
  | some r => rfl
end Go.Proofs.Ytfigcfajkilhiaa

/- Parts of owned rows whose elements have memory: split, put behind another row, one element exchanged for another. No program in it. -/
namespace Go.Proofs.Ytfigcfajkilhiaa
open Go.RowKit

/-- elements that lie at some place, readable -/
def Lie {α : Type} (size : Nat) (E : SE α) (w : World) (A : Option Addr) (es : List α) (G : List Nat) : Prop :=
  ∃ cs, elems size E w cs es G ∧ (∀ u ∈ cs, u.oneCell' = true) ∧ (A = none → es = []) ∧ ∀ ad, A = some ad → ∀ j u, cs[j]? = some u → w.cell? (ad.add j) = some u
theorem elems_one1 {α : Type} {E : SE α} {w : World} {size : Nat} (hE1 : ∀ w c d F, E w c d F → ∀ u ∈ c, u.oneCell' = true) : ∀ {vs : List Value} {ds : List α} {F : List Nat}, elems size E w vs ds F → ∀ u ∈ vs, u.oneCell' = true
  | _, [], _, ⟨h, _⟩, u, hu => by subst h; simp at hu
  | _, _ :: _, _, ⟨c, vs', F1, F2, h1, _, h3, h4, _⟩, u, hu => by
    subst h1
    rcases List.mem_append.1 hu with h | h
    · exact hE1 _ _ _ _ h3 u h
    · exact elems_one1 hE1 h4 u h
section
variable {P : Program} {w w' : World} {α : Type} {E : SE α} {te size bytes : Nat}
/-- an owned row in two parts -/
theorem SV.parts {v : Value} {ds : List α} {F : List Nat} (hE1 : ∀ w c d F, E w c d F → ∀ u ∈ c, u.oneCell' = true) (h : SV te size E w v ds F) (hN : F.Nodup) {k : Nat} (hk : k ≤ ds.length) : ∃ A cap G1 G2, v = .slice A ds.length cap ∧ ds.length ≤ cap ∧ Hid (cap ≤ maxLen) ∧ (A = none → ds = []) ∧
    (∀ b o, A = some ⟨b, o, none⟩ → o = 0) ∧ (∀ ad, A = some ad → ∃ b, ad = ⟨b, 0, none⟩) ∧ (∀ b ∈ G1, b ∈ F) ∧ (∀ b ∈ G2, b ∈ F) ∧ G1.Nodup ∧ G2.Nodup ∧ (∀ b ∈ G1, b ∉ G2) ∧
    Lie size E w A (ds.take k) G1 ∧ (∀ A', (∀ b, A = some ⟨b, 0, none⟩ → A' = some ⟨b, k * size, none⟩) → (A = none → A' = none) → Lie size E w A' (ds.drop k) G2) := by
  obtain ⟨A, cap, rfl, hc1, hc2⟩ := h.form
  obtain ⟨vs, F2, h1, h2, rfl⟩ := h
  have h2' := h2
  rw [← List.take_append_drop k ds] at h2'
  obtain ⟨vs1, vs2, G1, G2, e1, e2, k1, k2⟩ := elems_split h2'
  have hl1 := elems_length k1
  have hl2 := elems_length k2
  rw [List.length_take, Nat.min_eq_left hk] at hl1
  have hNd := (List.nodup_append.1 hN).2.1
  rw [e2] at hNd
  obtain ⟨n1, n2, n3⟩ := List.nodup_append.1 hNd
  have hA : ∀ ad, A = some ad → ∃ b, ad = ⟨b, 0, none⟩ := fun ad e => by
    subst e
    rcases h1.2 with ⟨h9, _⟩ | ⟨g, cap', cur, h9, _⟩
    · injection h9 with h9; cases h9
    · injection h9 with h9; injection h9 with h9; exact ⟨g, h9⟩
  have hA0 : A = none → ds = [] := fun e => by
    subst e
    rcases h1.2 with ⟨_, h9⟩ | ⟨g, cap', cur, h9, _⟩
    · exact List.eq_nil_of_length_eq_zero h9
    · injection h9 with h9; cases h9
  have hcell : ∀ b, A = some ⟨b, 0, none⟩ → ∀ j u, vs[j]? = some u → w.cell? ⟨b, j, none⟩ = some u := fun b e j u hj => by
    subst e
    have hlt := (List.getElem?_eq_some_iff.1 hj).1
    have hvl := elems_length h2
    rw [h1.cellAt j (by omega)]
    exact hj
  have hadd : ∀ b o j, (⟨b, o, none⟩ : Addr).add j = ⟨b, o + j, none⟩ := fun b o j => by
    unfold Addr.add
    split
    · rename_i h; subst h; rfl
    · rfl
  refine ⟨A, cap, G1, G2, rfl, hc1, hc2, hA0, fun b o e => ?_, hA, fun b hb => by rw [e2]; simp [hb], fun b hb => by rw [e2]; simp [hb], n1, n2, fun b hb hb2 => n3 b hb b hb2 rfl, ?_, fun A' hA1 hA2 => ?_⟩
  · obtain ⟨b', e'⟩ := hA _ e
    injection e'
  · refine ⟨vs1, k1, elems_one1 hE1 k1, fun e => by rw [hA0 e]; simp, fun ad e j u hj => ?_⟩
    obtain ⟨b, rfl⟩ := hA ad e
    rw [hadd, Nat.zero_add]
    exact hcell b e j u (by rw [e1, List.getElem?_append_left (List.getElem?_eq_some_iff.1 hj).1]; exact hj)
  · refine ⟨vs2, k2, elems_one1 hE1 k2, fun e => ?_, fun ad e j u hj => ?_⟩
    · cases hq : A with
      | none => rw [hA0 hq]; simp
      | some ad =>
        obtain ⟨b, rfl⟩ := hA ad hq
        rw [hA1 b hq] at e; cases e
    · cases hq : A with
      | none => rw [hA2 hq] at e; cases e
      | some ad' =>
        obtain ⟨b, rfl⟩ := hA ad' hq
        rw [hA1 b hq] at e
        injection e with e
        subst e
        rw [hadd]
        refine hcell b hq _ u ?_
        rw [e1, List.getElem?_append_right (by omega), hl1, Nat.add_sub_cancel_left]
        exact hj
variable [SMono E]
theorem Lie.keep {A : Option Addr} {es : List α} {G : List Nat} (h : Lie size E w A es G) (hG : ∀ b ∈ G, w'.heap[b]? = w.heap[b]?) (hA : ∀ ad, A = some ad → w'.heap[ad.block]? = w.heap[ad.block]?) : Lie size E w' A es G := by
  obtain ⟨cs, h1, h2, h3, h4⟩ := h
  refine ⟨cs, elems_keep h1 hG, h2, h3, fun ad e j u hj => ?_⟩
  have hb : (ad.add j).block = ad.block := by unfold Addr.add; split <;> rfl
  have h9 := hA ad e
  rw [← hb] at h9
  exact (World.cell?_of_block h9).trans (h4 ad e j u hj)
/-- append of elements that lie somewhere, onto an owned row -/
theorem wp_appP {o : Oper} {a : Act} {K : Act → World → Prop} {Q : Exit → Act → World → Prop} (s x : Operand) (t : TypeId)
    (ho : o.op = .call { callee := .builtin .append, args := #[s, x], argTypes := #[t, t] })
    {z : Value} (hT : SlT P t te size bytes z) {v : Value} {ds : List α} {F : List Nat} (hs : a.eval s = v) (hS : SV te size E w v ds F) (hN : F.Nodup)
    {A : Option Addr} {m c : Nat} {es : List α} {G : List Nat} (hx : a.eval x = .slice A m c) (hm : m = es.length) (hL : Lie size E w A es G) (hN2 : (F ++ G).Nodup) (hlen : ds.length + m ≤ 2000000000) (hby : bytes ≤ 60000)
    (h : ∀ v' w' F', SV te size E w' v' (ds ++ es) F' → Chg F w w' → F'.Nodup → (∀ b ∈ F', b ∈ F ∨ b ∈ G ∨ w.heap.size ≤ b) → K (a.put o.dst v') w') : o.wp P a w K Q := by
  obtain ⟨cs, k1, k2, k3, k4⟩ := hL
  cases A with
  | some ad => exact wp_appS _ s x t ho hT hs hS hN hx (k4 ad rfl) k2 hm k1 hN2 hlen hby h
  | none =>
    have e0 := k3 rfl
    subst e0
    subst hm
    obtain ⟨ht, hi, _, _⟩ := hT
    obtain ⟨i, hi, _, _, _⟩ := info_parts hi
    have hS' := hS
    obtain ⟨vs, F2, ho', _, _⟩ := hS'
    have hrun := run_append_none_c (P := P) (w := w) 0 t o.type te i size c ht hi v ds.length vs ho'
    unfold Oper.wp execOp
    simp only [ho, resolve, invoke, builtin, Sem.run_bind, Sem.run_pure, Result.andThen_ok, List.map_toArray, List.map_cons, List.map_nil, hs, hx, List.length_nil, hrun]
    exact h v w F (by simpa using hS) (Chg.refl F w) hN fun b hb => .inl hb
theorem step_appP {ops : Array Oper} {o : Oper} {a : Act} {K : Act → World → Prop} {Q : Exit → Act → World → Prop} {X : Prop} (hgd : o.guard = none) (s x : Operand) (t : TypeId)
    (ho : o.op = .call { callee := .builtin .append, args := #[s, x], argTypes := #[t, t] })
    {z : Value} (hT : SlT P t te size bytes z) {v : Value} {ds : List α} {F : List Nat} (hs : a.eval s = v) (hS : SV te size E w v ds F) (hN : F.Nodup)
    {A : Option Addr} {m c : Nat} {es : List α} {G : List Nat} (hx : a.eval x = .slice A m c) (hm : m = es.length) (hL : Lie size E w A es G) (hN2 : (F ++ G).Nodup) (hlen : ds.length + m ≤ 2000000000) (hby : bytes ≤ 60000)
    (h : ∀ v' w' F', SV te size E w' v' (ds ++ es) F' → Chg F w w' → F'.Nodup → (∀ b ∈ F', b ∈ F ∨ b ∈ G ∨ w.heap.size ≤ b) → K (a.put o.dst v') w') :
    if Region.wanted o (yielded ops a.tmps) = true then Oper.wp P o a w K Q else X := by
  have hwt : Region.wanted o (yielded ops a.tmps) = true := by simp [Region.wanted, hgd]
  rw [if_pos hwt]
  exact wp_appP s x t ho hT hs hS hN hx hm hL hN2 hlen hby h
end
/-- one element of three cells exchanged for another, its memory for that of the other -/
theorem SV.swap3 {α : Type} {te : Nat} {w : World} {E : SE α} [SMono E] {ds : List α} {g cap n : Nat} {F G : List Nat} (h : SV te 3 E w (.slice (some ⟨g, 0, none⟩) n cap) ds F) (hn : ds.length = n) (hN : (F ++ G).Nodup) {k : Nat} (hk : k < ds.length) {u v x : Value} {d : α} (hE : E w [u, v, x] d G) :
    ∃ F', SV te 3 E (((w.setCell ⟨g, k * 3, none⟩ u).setCell ⟨g, k * 3 + 1, none⟩ v).setCell ⟨g, k * 3 + 2, none⟩ x) (.slice (some ⟨g, 0, none⟩) n cap) (ds.set k d) F' ∧ Chg [g] w (((w.setCell ⟨g, k * 3, none⟩ u).setCell ⟨g, k * 3 + 1, none⟩ v).setCell ⟨g, k * 3 + 2, none⟩ x) ∧ F'.Nodup ∧ (∀ b ∈ F', b ∈ F ∨ b ∈ G) ∧ g ∈ F := by
  subst hn
  obtain ⟨vs, F2, h1, h2, h3⟩ := h
  have hfp : fpOf (.slice (some ⟨g, 0, none⟩) ds.length cap) = [g] := rfl
  rw [hfp] at h3
  obtain ⟨c, vs1, vs2, G1, G2, Fk, e1, e2, e3, e4, e5, e6, e7⟩ := elems_upd (c' := []) (d' := d) (Fk := []) (w' := w) h2 hk
  subst h3 e4
  have hN' := hN
  rw [List.nodup_append] at hN'
  obtain ⟨m1, m2, m3⟩ := hN'
  rw [List.singleton_append, List.nodup_cons, List.nodup_append, List.nodup_append] at m1
  obtain ⟨n1, n2, ⟨n3, n4, n5⟩, n6⟩ := m1
  have hlen := elems_length h2
  have hm : (k + 1) * 3 ≤ ds.length * 3 := Nat.mul_le_mul_right _ hk
  obtain ⟨s1, t1⟩ := h1.stored (k * 3) u
  obtain ⟨s2, t2⟩ := s1.stored (k * 3 + 1) v
  obtain ⟨s3, t3⟩ := s2.stored (k * 3 + 2) x
  have hC : Chg [g] w (((w.setCell ⟨g, k * 3, none⟩ u).setCell ⟨g, k * 3 + 1, none⟩ v).setCell ⟨g, k * 3 + 2, none⟩ x) := (((Chg.refl [g] w).setCell (.inl (by simp)) u).setCell (.inl (by simp)) v).setCell (.inl (by simp)) x
  have hl1 : vs1.length = k * 3 := e2
  have hvs : ((vs.set (k * 3) u).set (k * 3 + 1) v).set (k * 3 + 2) x = vs1 ++ ([u, v, x] ++ vs2) := by
    match c, e3 with
    | [c0, c1, c2], _ =>
      rw [e1, List.set_append_right _ _ (by omega), List.set_append_right _ _ (by omega), List.set_append_right _ _ (by omega), hl1, Nat.sub_self, show k * 3 + 1 - k * 3 = 1 by omega, show k * 3 + 2 - k * 3 = 2 by omega]
      rfl
  rw [hvs] at s3
  have hkp : ∀ b, b ∈ G1 ++ (Fk ++ G2) ∨ b ∈ G → (((w.setCell ⟨g, k * 3, none⟩ u).setCell ⟨g, k * 3 + 1, none⟩ v).setCell ⟨g, k * 3 + 2, none⟩ x).heap[b]? = w.heap[b]? := fun b hb => by
    refine hC.block b ?_ ?_
    · rcases hb with hb | hb
      · exact elems_lt h2 b hb
      · exact SMono.lt hE b hb
    · intro e
      rw [List.mem_singleton.1 e] at hb
      rcases hb with hb | hb
      · exact n1 hb
      · exact m3 g (by simp) g hb rfl
  refine ⟨[g] ++ (G1 ++ (G ++ G2)), ⟨vs1 ++ ([u, v, x] ++ vs2), G1 ++ (G ++ G2), by rw [List.length_set]; exact s3, ?_, by rw [hfp]⟩, hC, ?_, fun b hb => ?_, by simp⟩
  · rw [set_split hk]
    exact elems_join (elems_keep e6 fun b hb => hkp b (.inl (by simp [hb]))) rfl (SMono.keep hE fun b hb => hkp b (.inr hb)) (elems_keep e7 fun b hb => hkp b (.inl (by simp [hb])))
  · rw [List.singleton_append, List.nodup_cons, List.nodup_append, List.nodup_append]
    refine ⟨?_, n2, ⟨m2, n4, ?_⟩, ?_⟩
    · intro hb
      simp only [List.mem_append] at hb
      rcases hb with hb | hb | hb
      · exact n1 (by simp [hb])
      · exact m3 g (by simp) g hb rfl
      · exact n1 (by simp [hb])
    · intro a ha b hb e
      exact m3 b (by simp [hb]) a ha e.symm
    · intro a ha b hb e
      rcases List.mem_append.1 hb with h | h
      · exact m3 a (by simp [ha]) b h e
      · exact n6 a ha b (by simp [h]) e
  · simp only [List.singleton_append, List.mem_cons, List.mem_append] at hb ⊢
    rcases hb with hb | hb | hb | hb
    · exact .inl (.inl hb)
    · exact .inl (.inr (.inl hb))
    · exact .inr hb
    · exact .inl (.inr (.inr (.inr hb)))
end Go.Proofs.Ytfigcfajkilhiaa

/- Relations made of rows by the reference; rows found in relations; relations projected: the program's way and the reference's. -/
namespace Go.Proofs.Ytfigcfajkilhiaa
open Go.RowKit

set_option maxRecDepth 100000 in
set_option maxHeartbeats 8000000 in
theorem specNewRelation_any {a : Int} {A : Option Addr} {c : Nat} {rows : List (List Int)} {w : World} (ha : I64 a) (hx : rows.length ≤ 1000000000) (hcap : rows.length ≤ c) (hxl : ∀ x ∈ rows, x.length ≤ 1000000000) (h1 : RII w A rows) :
    Calls Try.prog 102 #[.int .i64 a, .slice A rows.length c] w (RelOut (newR a rows) w) := by
  obtain ⟨ha1, ha2⟩ := ha
  have Hxl := Lib.hid hxl
  clear hxl
  go_enter Try.func102, Try.ntmps102
  go_upto_region 1 with fail
  refine wp_name ?_
  intro W hW
  have xW : ∃ y, W = ext w y := by rw [hW.out]; exact (by refine Chg.isExt (F := []) ?_ (refl_ext _) (by simp); repeat (with_reducible (first | exact Chg.refl _ _ | exact Nat.le_refl _ | exact Chg.ofExt (by assumption) | refine Chg.trans0 ?_ (by assumption) | refine Chg.extS ?_ _ | refine Chg.alloc ?_ _ | refine Chg.drew ?_ | refine Chg.setCellE ?_ ?_ _ | refine le_addk ?_ _ | refine le_ext ?_ | refine le_alloc ?_ _ | refine le_setC ?_ _ _ | refine le_drew ?_ | assumption | (refine Nat.le_of_lt ?_; omega) | omega)))
  have RW : BoxAt W w.heap.size #[.int .i64 0, .slice none 0 0] := by rw [hW.out]; exact (by repeat (with_reducible (first | assumption | exact BoxAt.new _ _ _ | apply BoxAt.set2 | refine BoxAt.set2' ?_ (by omega) | apply BoxAt.setP0 | apply BoxAt.setP1 | refine BoxAt.setO ?_ (by omega) | refine BoxAt.alloc ?_ _ | refine BoxAt.drew ?_ | refine BoxAt.toExt ?_ (by assumption))))
  clear hW
  go_wp2_with fail
  go_loopw [6] (fun i wr => ∃ k : Nat, i = .int .i64 k ∧ k ≤ rows.length ∧ Hid (rowsIn a (rows.drop k) = rowsIn a rows) ∧ ∃ y, wr = ext W y) (fun i _ => rows.length - (intOf i).toNat)
  case atStart => exact ⟨0, rfl, by omega, Lib.hid (by simp), refl_ext W⟩
  case round =>
    obtain ⟨k, rfl, hk, Hj, hy⟩ := hrel
    have hyw := trans_ext xW hy
    obtain ⟨l1, a1, a1', f1⟩ := bx2 (RW.toExt hy)
    by_cases hlt : k < rows.length
    · obtain ⟨b, o, A1, c1, rfl, hb, hc, hv⟩ := (h1.toExt hyw).atV hlt
      have lx := Hxl.out rows[k] (List.getElem_mem hlt)
      have e := Hj.out
      rw [rowsIn_step hlt] at e
      obtain ⟨x, hx1⟩ : ∃ x, rows[k] = x := ⟨_, rfl⟩
      rw [hx1] at hc hv lx e
      unfold okRow at e
      obtain ⟨t1, ht1⟩ : ∃ t, decide ((x.length : Int) = a) = t := ⟨_, rfl⟩
      obtain ⟨t2, ht2⟩ : ∃ t, rowV x = t := ⟨_, rfl⟩
      have hq : ((x.length : Int) != a) = !t1 := by rw [← ht1]; by_cases q : (x.length : Int) = a <;> simp [q]
      rw [ht1, ht2] at e
      have T2 := Lib.hid ht2
      have He := Lib.hid e
      clear e ht1 ht2 hx1
      cases t1
      · have HZ := Lib.hid (newR_bad (a := a) (rows := rows) (by rw [← He.out]; rfl))
        go_wp2
        refine bodyPost_ret (v := .tuple #[.agg #[.int .i64 0, .slice none 0 0], .bool false]) (by simp [results, Try.results102, go_sem, *]) rfl (relOut_none HZ.out rfl (by refine Chg.isExt (F := []) ?_ (refl_ext _) (by simp); repeat (with_reducible (first | exact Chg.refl _ _ | exact Nat.le_refl _ | exact Chg.ofExt (by assumption) | refine Chg.trans0 ?_ (by assumption) | refine Chg.extS ?_ _ | refine Chg.alloc ?_ _ | refine Chg.drew ?_ | refine Chg.setCellE ?_ ?_ _ | refine le_addk ?_ _ | refine le_ext ?_ | refine le_alloc ?_ _ | refine le_setC ?_ _ _ | refine le_drew ?_ | assumption | (refine Nat.le_of_lt ?_; omega) | omega))))
      · cases t2
        · have HZ := Lib.hid (newR_bad (a := a) (rows := rows) (by rw [← He.out]; rfl))
          go_wp2_with (go_at_call 140; refine (specAreValidValues_any lx hv).mono ?_; rintro e w1 ⟨rfl, rfl⟩; rw [T2.out])
          refine bodyPost_ret (v := .tuple #[.agg #[.int .i64 0, .slice none 0 0], .bool false]) (by simp [results, Try.results102, go_sem, *]) rfl (relOut_none HZ.out rfl (by refine Chg.isExt (F := []) ?_ (refl_ext _) (by simp); repeat (with_reducible (first | exact Chg.refl _ _ | exact Nat.le_refl _ | exact Chg.ofExt (by assumption) | refine Chg.trans0 ?_ (by assumption) | refine Chg.extS ?_ _ | refine Chg.alloc ?_ _ | refine Chg.drew ?_ | refine Chg.setCellE ?_ ?_ _ | refine le_addk ?_ _ | refine le_ext ?_ | refine le_alloc ?_ _ | refine le_setC ?_ _ _ | refine le_drew ?_ | assumption | (refine Nat.le_of_lt ?_; omega) | omega))))
        · go_wp2_with (go_at_call 140; refine (specAreValidValues_any lx hv).mono ?_; rintro e w1 ⟨rfl, rfl⟩; rw [T2.out])
          exact ⟨⟨k + 1, by go_num, by omega, Lib.hid (by simpa using He.out), (by refine Chg.isExt (F := []) ?_ (refl_ext _) (by simp); repeat (with_reducible (first | exact Chg.refl _ _ | exact Nat.le_refl _ | exact Chg.ofExt (by assumption) | refine Chg.trans0 ?_ (by assumption) | refine Chg.extS ?_ _ | refine Chg.alloc ?_ _ | refine Chg.drew ?_ | refine Chg.setCellE ?_ ?_ _ | refine le_addk ?_ _ | refine le_ext ?_ | refine le_alloc ?_ _ | refine le_setC ?_ _ _ | refine le_drew ?_ | assumption | (refine Nat.le_of_lt ?_; omega) | omega)))⟩, by simp [intOf]; omega⟩
    · have HRI := Lib.hid (show rowsIn a rows = true by rw [← Hj.out, rowsIn_end hlt])
      have RB := RW.toExt hy
      have hz0 := RB.1
      clear l1 a1 a1' f1
      go_wp2_with fail
      refine (l5Sort_any rows.length A c rows wr (Nat.le_refl _) hx hcap Hxl.out (h1.toExt hyw)).mono ?_
      rintro e w1 ⟨A1, c1, rfl, hc1, rv1, hx1⟩
      have hsl := sortR_length rows
      have Hsl := Lib.hid (fun x (hx : x ∈ sortR rows) => Hxl.out x (mem_sortR.1 hx))
      have HNR := Lib.hid (newR_eq HRI.out)
      obtain ⟨sr, hsr⟩ : ∃ s, sortR rows = s := ⟨_, rfl⟩
      rw [hsr] at rv1 hsl Hsl HNR hc1 ⊢
      clear hsr
      have hs1x : sr.length ≤ 1000000000 := by omega
      go_wp2_with fail
      refine (l5Copy_any (z := a) hs1x Hsl.out rv1).mono ?_
      rintro e w1' ⟨u0, u1, F1, rfl, hx1', hS1, hN1, hF1⟩
      obtain ⟨A2, c2, rfl, rfl, hS2⟩ := sRel_form hS1
      have rv2 := (vII_get (sII_v _ _ _ hS2)).2
      have RB1 := RB.toExt (trans_ext hx1 hx1')
      have hzc := size_of_ext hx1
      go_upto_region 7 with fail
      refine wp_name ?_
      intro w2 hw2
      have hx2 : ∃ y, w2 = ext w1' y := by rw [hw2.out]; exact (by refine Chg.isExt (F := []) ?_ (refl_ext _) (by simp); repeat (with_reducible (first | exact Chg.refl _ _ | exact Nat.le_refl _ | exact Chg.ofExt (by assumption) | refine Chg.trans0 ?_ (by assumption) | refine Chg.extS ?_ _ | refine Chg.alloc ?_ _ | refine Chg.drew ?_ | refine Chg.setCellE ?_ ?_ _ | refine le_addk ?_ _ | refine le_ext ?_ | refine le_alloc ?_ _ | refine le_setC ?_ _ _ | refine le_drew ?_ | assumption | (refine Nat.le_of_lt ?_; omega) | omega)))
      have X2 : BoxAt w2 w1'.heap.size #[.int .i64 a, .slice A2 sr.length c2] := by rw [hw2.out]; exact (by repeat (with_reducible (first | assumption | exact BoxAt.new _ _ _ | apply BoxAt.set2 | refine BoxAt.set2' ?_ (by omega) | apply BoxAt.setP0 | apply BoxAt.setP1 | refine BoxAt.setO ?_ (by omega) | refine BoxAt.alloc ?_ _ | refine BoxAt.drew ?_ | refine BoxAt.toExt ?_ (by assumption))))
      have R2 := RB1.toExt hx2
      have rv3 := rv2.toExt hx2
      have hz1 : w.heap.size < w1'.heap.size := RB1.1
      clear hw2
      obtain ⟨l1, a1, a1', f1⟩ := bx2 X2
      obtain ⟨l2, a2, a2', f2⟩ := bx2 R2
      obtain ⟨t, ht⟩ : ∃ t, rowsB a sr = t := ⟨_, rfl⟩
      have HT := Lib.hid ht
      rw [ht] at HNR
      have HS1 := Lib.hid (OD.toExt hS2 hx2)
      have HN1 := Lib.hid hN1
      have HF1 := Lib.hid hF1
      have hxw : ∃ y, w2 = ext w y := trans_ext hyw (trans_ext hx1 (trans_ext hx1' hx2))
      have hzw := size_of_ext hyw
      clear ht hS1 hS2 hN1 hF1
      cases t
      · have HZ := Lib.hid (show newR a rows = none by rw [HNR.out]; rfl)
        go_wp2_with (go_at_call 57; refine (specIsValidRelation_w hs1x Hsl.out rv3).mono ?_; rintro e w3 ⟨rfl, hx3⟩; rw [HT.out]; obtain ⟨l3, a3, a3', f3⟩ := bx2 (R2.toExt hx3))
        refine bodyPost_ret (v := .tuple #[.agg #[.int .i64 0, .slice none 0 0], .bool false]) (by simp [results, Try.results102, go_sem, *]) rfl (relOut_none HZ.out rfl (by refine Chg.isExt (F := []) ?_ (refl_ext _) (by simp); repeat (with_reducible (first | exact Chg.refl _ _ | exact Nat.le_refl _ | exact Chg.ofExt (by assumption) | refine Chg.trans0 ?_ (by assumption) | refine Chg.extS ?_ _ | refine Chg.alloc ?_ _ | refine Chg.drew ?_ | refine Chg.setCellE ?_ ?_ _ | refine le_addk ?_ _ | refine le_ext ?_ | refine le_alloc ?_ _ | refine le_setC ?_ _ _ | refine le_drew ?_ | assumption | (refine Nat.le_of_lt ?_; omega) | omega))))
      · have HZ := Lib.hid (show newR a rows = some (a, sr) by rw [HNR.out]; rfl)
        go_wp2_with (go_at_call 57; refine (specIsValidRelation_w hs1x Hsl.out rv3).mono ?_; rintro e w3 ⟨rfl, hx3⟩; rw [HT.out]; obtain ⟨l3, a3, a3', f3⟩ := bx2 (R2.toExt hx3); obtain ⟨l4, a4, a4', f4⟩ := bx2 (X2.toExt hx3))
        refine bodyPost_ret (v := .tuple #[.agg #[.int .i64 a, .slice A2 sr.length c2], .bool true]) (by simp [results, Try.results102, go_sem, *]) rfl ⟨_, _, F1, by rw [HZ.out]; rfl, (by refine Chg.isExt (F := []) ?_ (refl_ext _) (by simp); repeat (with_reducible (first | exact Chg.refl _ _ | exact Nat.le_refl _ | exact Chg.ofExt (by assumption) | refine Chg.trans0 ?_ (by assumption) | refine Chg.extS ?_ _ | refine Chg.alloc ?_ _ | refine Chg.drew ?_ | refine Chg.setCellE ?_ ?_ _ | refine le_addk ?_ _ | refine le_ext ?_ | refine le_alloc ?_ _ | refine le_setC ?_ _ _ | refine le_drew ?_ | assumption | (refine Nat.le_of_lt ?_; omega) | omega))), ?_, HN1.out, fun b hb => ?_⟩
        · rw [HZ.out]
          refine sRel_mk (OD.chg (E := sII) (G := [w.heap.size]) (OD.toExt HS1.out hx3) (by repeat (with_reducible (first | exact Chg.refl _ _ | refine Chg.trans0 ?_ (by assumption) | refine Chg.extS ?_ _ | refine Chg.alloc ?_ _ | refine Chg.drew ?_ | refine Chg.setCell ?_ (.inl (by simp)) _))) ?_)
          intro b hb h
          have := HF1.out b hb
          rw [List.mem_singleton.1 h] at this
          omega
        · have := HF1.out b hb
          omega
theorem conB {a : Int} {rows : List (List Int)} {row : List Int} {b t : Bool} (h : AscR rows → b = decide (row ∈ rows)) (ht : rowsB a rows = t) : (t && b) = (rowsB a rows && decide (row ∈ rows)) := by
  rw [ht]
  cases t with
  | false => rfl
  | true => rw [h (rowsB_iff.1 ht).2.2.2.2]
set_option maxHeartbeats 1000000 in
theorem ContainsRow_any {a : Int} {A A' : Option Addr} {c c' : Nat} {rows : List (List Int)} {row : List Int} {w : World} (hx : rows.length ≤ 1000000000) (hxl : ∀ x ∈ rows, x.length ≤ 1000000000) (h1 : RII w A rows) (hr : row.length ≤ 1000000000) (h2 : RI w A' row) :
    Calls Try.prog 78 #[.agg #[.int .i64 a, .slice A rows.length c], .slice A' row.length c'] w fun e w' => e = .returned (.bool (rowsB a rows && decide (row ∈ rows))) ∧ ∃ y, w' = ext w y := by
  have Hxl := Lib.hid hxl
  obtain ⟨t, ht⟩ : ∃ t, rowsB a rows = t := ⟨_, rfl⟩
  have HT := Lib.hid ht
  clear hxl ht
  go_enter Try.func78, Try.ntmps78
  go_upto_region 1 with fail
  refine wp_name ?_
  intro W hW
  have xW : ∃ y, W = ext w y := by rw [hW.out]; exact (by refine Chg.isExt (F := []) ?_ (refl_ext _) (by simp); repeat (with_reducible (first | exact Chg.refl _ _ | exact Nat.le_refl _ | exact Chg.ofExt (by assumption) | refine Chg.trans0 ?_ (by assumption) | refine Chg.extS ?_ _ | refine Chg.alloc ?_ _ | refine Chg.drew ?_ | refine Chg.setCellE ?_ ?_ _ | refine le_addk ?_ _ | refine le_ext ?_ | refine le_alloc ?_ _ | refine le_setC ?_ _ _ | refine le_drew ?_ | assumption | (refine Nat.le_of_lt ?_; omega) | omega)))
  have BW0 : BoxAt W (w.heap.size) #[.int .i64 a, .slice A rows.length c] := by rw [hW.out]; refine ⟨?_, fun j => ?_, fun j => ?_⟩ <;> go_simp
  obtain ⟨lW0, bW0, fW0⟩ := BW0
  have cW0_0 : W.cell? ⟨w.heap.size, 0, none⟩ = some (.int .i64 a) := bW0 0
  have cW0_1 : W.cell? ⟨w.heap.size, 1, none⟩ = some (.slice A rows.length c) := bW0 1
  clear hW
  have PW : BoxAt W w.heap.size #[.int .i64 a, .slice A rows.length c] := ⟨lW0, bW0, fW0⟩
  go_wp2_with fail
  refine (place_any hx Hxl.out (h1.toExt xW) hr (h2.toExt xW)).mono ?_
  rintro e w1 ⟨k, b, rfl, _, hb, _, hx1⟩
  have HB := Lib.hid (conB hb HT.out)
  obtain ⟨l1, a1, a1', f1⟩ := bx2 (PW.toExt hx1)
  clear hb lW0 bW0 fW0 cW0_0 cW0_1
  cases t
  · go_wp2_with (go_at_call 122; refine (IsValidRelation_w hx Hxl.out (h1.toExt (trans_ext xW hx1))).mono ?_; rintro e w3 ⟨rfl, hx3⟩; rw [HT.out])
    go_ret
    exact ⟨by rw [← HB.out]; rfl, (by refine Chg.isExt (F := []) ?_ (refl_ext _) (by simp); repeat (with_reducible (first | exact Chg.refl _ _ | exact Nat.le_refl _ | exact Chg.ofExt (by assumption) | refine Chg.trans0 ?_ (by assumption) | refine Chg.extS ?_ _ | refine Chg.alloc ?_ _ | refine Chg.drew ?_ | refine Chg.setCellE ?_ ?_ _ | refine le_addk ?_ _ | refine le_ext ?_ | refine le_alloc ?_ _ | refine le_setC ?_ _ _ | refine le_drew ?_ | assumption | (refine Nat.le_of_lt ?_; omega) | omega)))⟩
  · go_wp2_with (go_at_call 122; refine (IsValidRelation_w hx Hxl.out (h1.toExt (trans_ext xW hx1))).mono ?_; rintro e w3 ⟨rfl, hx3⟩; rw [HT.out])
    go_ret
    exact ⟨by rw [← HB.out]; rfl, (by refine Chg.isExt (F := []) ?_ (refl_ext _) (by simp); repeat (with_reducible (first | exact Chg.refl _ _ | exact Nat.le_refl _ | exact Chg.ofExt (by assumption) | refine Chg.trans0 ?_ (by assumption) | refine Chg.extS ?_ _ | refine Chg.alloc ?_ _ | refine Chg.drew ?_ | refine Chg.setCellE ?_ ?_ _ | refine le_addk ?_ _ | refine le_ext ?_ | refine le_alloc ?_ _ | refine le_setC ?_ _ _ | refine le_drew ?_ | assumption | (refine Nat.le_of_lt ?_; omega) | omega)))⟩
set_option maxHeartbeats 1000000 in
theorem specContainsRow_any {a : Int} {A A' : Option Addr} {c c' : Nat} {rows : List (List Int)} {row : List Int} {w : World} (hx : rows.length ≤ 1000000000) (hxl : ∀ x ∈ rows, x.length ≤ 1000000000) (h1 : RII w A rows) (hr : row.length ≤ 1000000000) (h2 : RI w A' row) :
    Calls Try.prog 158 #[.agg #[.int .i64 a, .slice A rows.length c], .slice A' row.length c'] w fun e w' => e = .returned (.bool (rowsB a rows && decide (row ∈ rows))) ∧ ∃ y, w' = ext w y := by
  have Hxl := Lib.hid hxl
  obtain ⟨t, ht⟩ : ∃ t, rowsB a rows = t := ⟨_, rfl⟩
  have HT := Lib.hid ht
  clear hxl ht
  go_enter Try.func158, Try.ntmps158
  go_upto_region 1 with fail
  refine wp_name ?_
  intro W hW
  have xW : ∃ y, W = ext w y := by rw [hW.out]; exact (by refine Chg.isExt (F := []) ?_ (refl_ext _) (by simp); repeat (with_reducible (first | exact Chg.refl _ _ | exact Nat.le_refl _ | exact Chg.ofExt (by assumption) | refine Chg.trans0 ?_ (by assumption) | refine Chg.extS ?_ _ | refine Chg.alloc ?_ _ | refine Chg.drew ?_ | refine Chg.setCellE ?_ ?_ _ | refine le_addk ?_ _ | refine le_ext ?_ | refine le_alloc ?_ _ | refine le_setC ?_ _ _ | refine le_drew ?_ | assumption | (refine Nat.le_of_lt ?_; omega) | omega)))
  have BW0 : BoxAt W (w.heap.size) #[.int .i64 a, .slice A rows.length c] := by rw [hW.out]; refine ⟨?_, fun j => ?_, fun j => ?_⟩ <;> go_simp
  obtain ⟨lW0, bW0, fW0⟩ := BW0
  have cW0_0 : W.cell? ⟨w.heap.size, 0, none⟩ = some (.int .i64 a) := bW0 0
  have cW0_1 : W.cell? ⟨w.heap.size, 1, none⟩ = some (.slice A rows.length c) := bW0 1
  clear hW
  have PW : BoxAt W w.heap.size #[.int .i64 a, .slice A rows.length c] := ⟨lW0, bW0, fW0⟩
  cases t
  · go_wp2_with (go_at_call 57; refine (specIsValidRelation_w hx Hxl.out (h1.toExt xW)).mono ?_; rintro e w3 ⟨rfl, hx3⟩; rw [HT.out])
    go_ret
    exact ⟨by rw [HT.out]; rfl, (by refine Chg.isExt (F := []) ?_ (refl_ext _) (by simp); repeat (with_reducible (first | exact Chg.refl _ _ | exact Nat.le_refl _ | exact Chg.ofExt (by assumption) | refine Chg.trans0 ?_ (by assumption) | refine Chg.extS ?_ _ | refine Chg.alloc ?_ _ | refine Chg.drew ?_ | refine Chg.setCellE ?_ ?_ _ | refine le_addk ?_ _ | refine le_ext ?_ | refine le_alloc ?_ _ | refine le_setC ?_ _ _ | refine le_drew ?_ | assumption | (refine Nat.le_of_lt ?_; omega) | omega)))⟩
  · go_wp2_with (first
      | (go_at_call 57; refine (specIsValidRelation_w hx Hxl.out (h1.toExt xW)).mono ?_; rintro e w3 ⟨rfl, hx3⟩; rw [HT.out]; obtain ⟨l3, a3, a3', f3⟩ := bx2 (PW.toExt hx3))
      | (go_at_call 118; refine (l5Place_any hx Hxl.out (h1.toExt (trans_ext xW hx3)) hr (h2.toExt (trans_ext xW hx3))).mono ?_; rintro e w1 ⟨k, b, rfl, _, hb, _, hx1⟩; have HB := Lib.hid (conB hb HT.out); clear hb))
    go_ret
    exact ⟨by rw [← HB.out]; rfl, (by refine Chg.isExt (F := []) ?_ (refl_ext _) (by simp); repeat (with_reducible (first | exact Chg.refl _ _ | exact Nat.le_refl _ | exact Chg.ofExt (by assumption) | refine Chg.trans0 ?_ (by assumption) | refine Chg.extS ?_ _ | refine Chg.alloc ?_ _ | refine Chg.drew ?_ | refine Chg.setCellE ?_ ?_ _ | refine le_addk ?_ _ | refine le_ext ?_ | refine le_alloc ?_ _ | refine le_setC ?_ _ _ | refine le_drew ?_ | assumption | (refine Nat.le_of_lt ?_; omega) | omega)))⟩
end Go.Proofs.Ytfigcfajkilhiaa

/- The reference's walk over the atoms of a query. -/
namespace Go.Proofs.Ytfigcfajkilhiaa
open Go.RowKit

theorem fitX_step {X vs ys : List Int} {k : Nat} (h : k < vs.length) (h' : k < ys.length) : fitX X (vs.drop k) (ys.drop k) = if X.getD (vs.getD k 0).toNat 0 = -1 ∨ X.getD (vs.getD k 0).toNat 0 = ys.getD k 0 then fitX (X.set (vs.getD k 0).toNat (ys.getD k 0)) (vs.drop (k + 1)) (ys.drop (k + 1)) else none := by
  rw [List.drop_eq_getElem_cons h, List.drop_eq_getElem_cons h', fitX, getDl _ _ h, getDl _ _ h']
theorem fitX_end {X vs ys : List Int} {k : Nat} (h : ¬ k < vs.length) : fitX X (vs.drop k) (ys.drop k) = some X := by
  rw [List.drop_eq_nil_of_le (by omega)]
  cases ys.drop k <;> rfl
theorem fitX_len : ∀ {vs ys X z : List Int}, fitX X vs ys = some z → z.length = X.length
  | [], [], X, z, h => by simp [fitX] at h; rw [h]
  | [], _ :: _, X, z, h => by simp [fitX] at h; rw [h]
  | _ :: _, [], X, z, h => by simp [fitX] at h; rw [h]
  | v :: vs, y :: ys, X, z, h => by
    rw [fitX] at h
    split at h
    · rw [fitX_len h, List.length_set]
    · cases h
def walk1 (d : Dbd) (ats : List At) (vs row r : List Int) : List (List Int) := match fitX row vs r with | some x => walkL d ats x | none => []
theorem walk_cons {d : Dbd} {a : At} {ats : List At} {row : List Int} : walkL d (a :: ats) row = (relOf d a).2.flatMap (walk1 d ats a.2 row) := rfl
theorem walk1_some {d : Dbd} {ats : List At} {vs row r x : List Int} (h : fitX row vs r = some x) : walk1 d ats vs row r = walkL d ats x := by unfold walk1; rw [h]
theorem walk1_none {d : Dbd} {ats : List At} {vs row r : List Int} (h : fitX row vs r = none) : walk1 d ats vs row r = [] := by unfold walk1; rw [h]
theorem walkL_el {d : Dbd} : ∀ {ats : List At} {row z : List Int}, z ∈ walkL d ats row → z.length = row.length
  | [], row, z, h => by rw [walkL, List.mem_singleton] at h; rw [h]
  | a :: ats, row, z, h => by
    rw [walk_cons, List.mem_flatMap] at h
    obtain ⟨r, _, hz⟩ := h
    unfold walk1 at hz
    split at hz
    · rename_i x e
      rw [walkL_el hz, fitX_len e]
    · simp at hz
theorem flat_bd {α β : Type} {f : α → List β} {n : Nat} (h : ∀ a, (f a).length ≤ n) : ∀ (l : List α), (l.flatMap f).length ≤ n * l.length
  | [] => by simp
  | a :: l => by
    have := flat_bd h l
    have h1 := h a
    rw [List.flatMap_cons, List.length_append, List.length_cons, Nat.mul_add]
    omega
theorem walkL_len {d : Dbd} : ∀ {ats : List At} {row : List Int}, (∀ a ∈ ats, (relOf d a).2.length ≤ 16) → (walkL d ats row).length ≤ 16 ^ ats.length
  | [], row, _ => by simp [walkL]
  | a :: ats, row, h => by
    have h1 := h a (by simp)
    rw [walk_cons]
    have h2 : ∀ r, (walk1 d ats a.2 row r).length ≤ 16 ^ ats.length := fun r => by
      unfold walk1
      split
      · exact walkL_len fun b hb => h b (by simp [hb])
      · simp
    refine Nat.le_trans (flat_bd h2 _) ?_
    rw [List.length_cons, Nat.pow_succ]
    exact Nat.mul_le_mul_left _ h1
theorem flat_step {α β : Type} {f : α → List β} {l : List α} {k : Nat} (h : k < l.length) : (l.take (k + 1)).flatMap f = (l.take k).flatMap f ++ f l[k] := by
  rw [List.take_succ_eq_append_getElem h, List.flatMap_append]
  simp
theorem flat_take_len {α β : Type} {f : α → List β} {l : List α} {k : Nat} : ((l.take k).flatMap f).length ≤ (l.flatMap f).length := by
  have : l.flatMap f = (l.take k).flatMap f ++ (l.drop k).flatMap f := by rw [← List.flatMap_append, List.take_append_drop]
  rw [this]
  simp
theorem SV.lit1 {α : Type} {te : Nat} {E : SE α} [SMono E] {w : World} {v : Value} {d : α} {G : List Nat} (hE : E w [v] d G) : SV te 1 E (w.alloc (.cells #[v] te)) (.slice (some ⟨w.heap.size, 0, none⟩) 1 1) [d] (w.heap.size :: G) :=
  ⟨[v], G, ⟨by simp, .inr ⟨w.heap.size, 1, #[v], rfl, Nat.zero_le _, heap_alloc_new w _, Nat.le_refl _, by simp [maxLen], by simp, by simp⟩⟩, elems_one rfl (SMono.keep hE fun b hb => by
    obtain ⟨y, e⟩ := alloc_ext w (.cells #[v] te)
    rw [e]; exact (below_ext w y).block b (SMono.lt hE b hb)), rfl⟩
section
variable {P : Program} {w : World} {α : Type} {E : SE α} [SMono E] {te size bytes : Nat}
theorem wpList_appP {ops : Array Oper} {rest : List Oper} {o : Oper} {a : Act} {Q : Exit → Act → World → Prop} (hgd : o.guard = none) (s x : Operand) (t : TypeId)
    (ho : o.op = .call { callee := .builtin .append, args := #[s, x], argTypes := #[t, t] })
    {z : Value} (hT : SlT P t te size bytes z) {v : Value} {ds : List α} {F : List Nat} (hs : a.eval s = v) (hS : SV te size E w v ds F) (hN : F.Nodup)
    {A : Option Addr} {m c : Nat} {es : List α} {G : List Nat} (hx : a.eval x = .slice A m c) (hm : m = es.length) (hL : Lie size E w A es G) (hN2 : (F ++ G).Nodup) (hlen : ds.length + m ≤ 2000000000) (hby : bytes ≤ 60000)
    (h : ∀ v' w' F', SV te size E w' v' (ds ++ es) F' → Chg F w w' → F'.Nodup → (∀ b ∈ F', b ∈ F ∨ b ∈ G ∨ w.heap.size ≤ b) → wpList P ops Q rest (a.put o.dst v') w') : wpList P ops Q (o :: rest) a w :=
  wpList_plain hgd fun _ hK => wp_appP s x t ho hT hs hS hN hx hm hL hN2 hlen hby fun v' w' F' h2 h3 h4 h5 => hK _ _ (h v' w' F' h2 h3 h4 h5)
end
theorem sRow_1 (w : World) (c : List Value) (d : List Int) (F : List Nat) (h : sRow w c d F) : ∀ u ∈ c, u.oneCell' = true := by
  obtain ⟨v, rfl, h⟩ := h
  obtain ⟨A, cap, rfl, _⟩ := h.form
  simp [Value.oneCell']
/-- the whole of an owned row, to be put behind another -/
theorem SV.whole {te : Nat} {w : World} {A : Option Addr} {n c : Nat} {ds : List (List Int)} {F : List Nat} (h : SV te 1 sRow w (.slice A n c) ds F) (hN : F.Nodup) : ∃ G, Lie 1 sRow w A ds G ∧ G.Nodup ∧ (∀ b ∈ G, b ∈ F) := by
  obtain ⟨A', cap, G1, G2, e, _, _, _, _, _, m1, _, n1, _, _, L1, _⟩ := h.parts (fun w c d F h => sRow_1 w c d F h) hN (k := ds.length) (Nat.le_refl _)
  injection e with e _ _
  subst e
  rw [List.take_length] at L1
  exact ⟨G1, L1, n1, m1⟩
def WalkP (d : Dbd) (q : Qd) (n : Nat) (row : List Int) (w : World) (e : Ending) (w' : World) : Prop := ∃ A c F, e = .returned (.slice A (walkL d (q.2.1.drop n) row).length c) ∧ (∃ y, w' = ext w y) ∧ SV 48 1 sRow w' (.slice A (walkL d (q.2.1.drop n) row).length c) (walkL d (q.2.1.drop n) row) F ∧ F.Nodup ∧ ∀ b ∈ F, w.heap.size ≤ b
theorem walkP_mk {d : Dbd} {q : Qd} {n : Nat} {row : List Int} {w w' : World} {e : Ending} {v : Value} {l : List (List Int)} {F : List Nat} (hl : walkL d (q.2.1.drop n) row = l) (he : e = .returned v) (hx : ∃ y, w' = ext w y) (hS : SV 48 1 sRow w' v l F) (hN : F.Nodup) (hF : ∀ b ∈ F, w.heap.size ≤ b) : WalkP d q n row w e w' := by
  subst hl
  obtain ⟨A, c, rfl, _⟩ := hS.form
  exact ⟨A, c, F, he, hx, hS, hN, hF⟩
/-- what is known where a relation was looked up into a fresh box: the rows are owned -/
def CutW (o : Option Rd) (W : World) (va vb : Value) (wx : World) : Prop := ∃ b A c F, va = .pointer (some ⟨b, 0, none⟩) ∧ vb = .bool o.isSome ∧ BoxAt wx b #[.int .i64 (o.getD (0, [])).1, .slice A (o.getD (0, [])).2.length c] ∧ sII wx [.slice A (o.getD (0, [])).2.length c] (o.getD (0, [])).2 F ∧ (∀ x ∈ F, W.heap.size ≤ x) ∧ W.heap.size ≤ b ∧ ∃ y, wx = ext W y
set_option maxRecDepth 100000 in
set_option maxHeartbeats 16000000 in
theorem l8Walk_any {A B C : Option Addr} {c e g nr : Nat} {d : Dbd} {q : Qd} {W0 : World} (hd : WDb d) (h1 : RV 3 vTb W0 A d) (h2 : vQ W0 [.int .i64 q.1, .slice B q.2.1.length e, .slice C q.2.2.length g] q) (hq : QOk d q) (hnr : (nr : Int) = q.1) : ∀ (m n : Nat) (R : Option Addr) (cr : Nat) (row : List Int) (w : World) (_ : n + m = q.2.1.length) (_ : ∃ y, w = ext W0 y) (_ : row.length = nr) (_ : RI w R row),
    Calls Try.prog 103 #[.agg #[.slice A d.length c], .agg #[.int .i64 q.1, .slice B q.2.1.length e, .slice C q.2.2.length g], .int .i64 n, .slice R nr cr] w (WalkP d q n row w) := by
  have HD := Lib.hid hd
  have HQ := Lib.hid hq
  have h3 := (vAts_get (vQ_get h2).1).2
  have hal := hq.at4
  have hn1 := hq.n1
  have hn5 := hq.n5
  have HNR := Lib.hid hnr
  clear hd hq h2 hnr
  intro m
  induction m with
  | zero =>
    as_aux_lemma =>
    intro n R cr row w hnm hw0 hrl hR
    have hn : n = q.2.1.length := by omega
    have HL := Lib.hid (show walkL d (q.2.1.drop n) row = [row] by rw [List.drop_eq_nil_of_le (by omega)]; rfl)
    have hrl2 : row.length ≤ 2000000000 := by have := HNR.out; omega
    go_enter Try.func103, Try.ntmps103
    go_upto_region 1 with fail
    refine wp_name ?_
    intro W hW
    have xW : ∃ y, W = ext w y := by rw [hW.out]; exact (by refine Chg.isExt (F := []) ?_ (refl_ext _) (by simp); repeat (with_reducible (first | exact Chg.refl _ _ | exact Nat.le_refl _ | exact Chg.ofExt (by assumption) | refine Chg.trans0 ?_ (by assumption) | refine Chg.extS ?_ _ | refine Chg.alloc ?_ _ | refine Chg.drew ?_ | refine Chg.setCellE ?_ ?_ _ | refine le_addk ?_ _ | refine le_ext ?_ | refine le_alloc ?_ _ | refine le_setC ?_ _ _ | refine le_drew ?_ | assumption | (refine Nat.le_of_lt ?_; omega) | omega)))
    have QW : BoxAt W (w.heap.size + 1) #[.int .i64 q.1, .slice B q.2.1.length e, .slice C q.2.2.length g] := by
      rw [hW.out]
      simpa using BoxAt.new (w.alloc (.cells #[.slice A d.length c] 29)) #[.int .i64 q.1, .slice B q.2.1.length e, .slice C q.2.2.length g] 55
    obtain ⟨lq, q0, q1, q2, fq⟩ := box3 QW
    have hS0 := SV.empty (α := Int) (te := 3) (size := 1) (E := sI) W
    have hzW := size_of_ext xW
    have hbe : ((n : Int) == (q.2.1.length : Int)) = true := by simp; omega
    have HRL := Lib.hid hrl
    clear hW hn hrl
    go_wp2_with (at_builtin; refine wpList_appV (E := sI) (V := vI) (es := row) rfl _ _ _ rfl tI rfl hS0 rfl HRL.out.symm (hR.toExt (trans_ext xW (by refine Chg.isExt (F := []) ?_ (refl_ext _) (by simp); repeat (with_reducible (first | exact Chg.refl _ _ | exact Nat.le_refl _ | exact Chg.ofExt (by assumption) | refine Chg.trans0 ?_ (by assumption) | refine Chg.extS ?_ _ | refine Chg.alloc ?_ _ | refine Chg.drew ?_ | refine Chg.setCellE ?_ ?_ _ | refine le_addk ?_ _ | refine le_ext ?_ | refine le_alloc ?_ _ | refine le_setC ?_ _ _ | refine le_drew ?_ | assumption | (refine Nat.le_of_lt ?_; omega) | omega))))) vI_s vI_1 (by have := HRL.out; simp; omega) (by omega) ?_; intro v' w' F' hS hC hF; rw [List.nil_append] at hS; obtain ⟨A9, c9, rfl, _, _⟩ := hS.form)
    go_ret
    have hxw' : ∃ y, w' = ext W y := hC.isExt (by refine Chg.isExt (F := []) ?_ (refl_ext _) (by simp); repeat (with_reducible (first | exact Chg.refl _ _ | exact Nat.le_refl _ | exact Chg.ofExt (by assumption) | refine Chg.trans0 ?_ (by assumption) | refine Chg.extS ?_ _ | refine Chg.alloc ?_ _ | refine Chg.drew ?_ | refine Chg.setCellE ?_ ?_ _ | refine le_addk ?_ _ | refine le_ext ?_ | refine le_alloc ?_ _ | refine le_setC ?_ _ _ | refine le_drew ?_ | assumption | (refine Nat.le_of_lt ?_; omega) | omega))) (by simp)
    have hFn : ∀ b ∈ F', W.heap.size ≤ b := fun b hb => by
      rcases hF b hb with h | h
      · simp at h; omega
      · simp at h; omega
    refine walkP_mk HL.out rfl (by refine Chg.isExt (F := []) ?_ (refl_ext _) (by simp); repeat (with_reducible (first | exact Chg.refl _ _ | exact Nat.le_refl _ | exact Chg.ofExt (by assumption) | refine Chg.trans0 ?_ (by assumption) | refine Chg.extS ?_ _ | refine Chg.alloc ?_ _ | refine Chg.drew ?_ | refine Chg.setCellE ?_ ?_ _ | refine le_addk ?_ _ | refine le_ext ?_ | refine le_alloc ?_ _ | refine le_setC ?_ _ _ | refine le_drew ?_ | assumption | (refine Nat.le_of_lt ?_; omega) | omega))) (SV.lit1 (te := 48) (E := sRow) (d := row) (G := F') ⟨_, rfl, hS⟩) ?_ ?_
    · rw [List.nodup_cons]
      exact ⟨fun h => by have := hS.lt _ h; omega, hS.nodup⟩
    · intro b hb
      have := size_of_ext hxw'
      rcases List.mem_cons.1 hb with h | h
      · omega
      · have := hFn b h; omega
  | succ m ih =>
    intro n R cr row w hnm hw0 hrl hR
    have HIH := Lib.hid ih
    clear ih
    have hnc : ((n + 1 : Nat) : Int) = (n : Int) + 1 := by omega
    have hlt0 : n < q.2.1.length := by omega
    have hfit := HQ.out.fit _ (List.getElem_mem hlt0)
    have hvars := HQ.out.vars _ (List.getElem_mem hlt0)
    have hds : q.2.1.drop n = q.2.1[n] :: q.2.1.drop (n + 1) := List.drop_eq_getElem_cons hlt0
    have HWL := Lib.hid (fun X => walkL_len (d := d) (ats := q.2.1.drop (n + 1)) (row := X) (fun a ha => ((atFit_some (HQ.out.fit a (List.mem_of_mem_drop ha))).2.1).cnt))
    have HW0 := Lib.hid (walkL_len (d := d) (ats := q.2.1.drop n) (row := row) (fun a ha => ((atFit_some (HQ.out.fit a (List.mem_of_mem_drop ha))).2.1).cnt))
    have hpow : ∀ k ≤ 4, 16 ^ k ≤ 65536 := fun k hk => Nat.le_trans (Nat.pow_le_pow_right (by omega) hk) (by decide)
    have HW9 := Lib.hid (fun X => Nat.le_trans (HWL.out X) (hpow _ (by rw [List.length_drop]; omega)))
    have HW8 := Lib.hid (Nat.le_trans HW0.out (hpow _ (by rw [List.length_drop]; omega)))
    have HAT := Lib.hid (fun (w' : World) (h : ∃ y, w' = ext W0 y) => (h3.toExt h).atA hlt0)
    obtain ⟨x, hx⟩ : ∃ x, q.2.1[n] = x := ⟨_, rfl⟩
    have hw9 := look_w HD.out (atFit_get (hx ▸ hfit))
    rw [hx] at hfit hvars hds HAT
    have hT := atFit_some hfit
    have hrb := rowsB_iff.1 hT.2.1.rel
    have hcnt := hT.2.1.cnt
    have har := hT.2.2
    have hoo := atFit_get hfit
    obtain ⟨⟨ar, rows⟩, hr9⟩ : ∃ r, relOf d x = r := ⟨_, rfl⟩
    rw [hr9] at hoo hrb hcnt har hw9
    simp only at har hcnt hrb hw9
    subst har
    have HWK := Lib.hid (show walkL d (q.2.1.drop n) row = rows.flatMap (walk1 d (q.2.1.drop (n + 1)) x.2 row) by rw [hds, walk_cons, hr9])
    have HWR := Lib.hid hw9.2
    have HRW := Lib.hid (fun y (hy : y ∈ rows) => show y.length = x.2.length by have := (hrb.2.2.2.1 y hy).1; omega)
    have HVS := Lib.hid hvars
    obtain ⟨ats, hats⟩ : ∃ l, q.2.1.drop (n + 1) = l := ⟨_, rfl⟩
    have HATS := Lib.hid hats
    rw [hats] at HWK HW9
    obtain ⟨o, ho⟩ : ∃ o, o = some ((x.2.length : Int), rows) := ⟨_, rfl⟩
    rw [← ho] at hoo
    have HO := Lib.hid hoo
    have HOR := Lib.hid ho
    have hbe : ((n : Int) == (q.2.1.length : Int)) = false := by simp; omega
    have hrl2 : row.length ≤ 2000000000 := by have := HNR.out; omega
    have HRL := Lib.hid hrl
    have hnr1 : 1 ≤ nr := by have := HNR.out; omega
    have hnr5 : nr ≤ 5 := by have := HNR.out; omega
    clear hx hfit hds hT hrb hr9 hoo ho hats hpow hvars HWL HW0 hw9 hrl
    go_enter Try.func103, Try.ntmps103
    go_upto_region 1 with fail
    refine wp_name ?_
    intro W hW
    have xW : ∃ y, W = ext w y := by rw [hW.out]; exact (by refine Chg.isExt (F := []) ?_ (refl_ext _) (by simp); repeat (with_reducible (first | exact Chg.refl _ _ | exact Nat.le_refl _ | exact Chg.ofExt (by assumption) | refine Chg.trans0 ?_ (by assumption) | refine Chg.extS ?_ _ | refine Chg.alloc ?_ _ | refine Chg.drew ?_ | refine Chg.setCellE ?_ ?_ _ | refine le_addk ?_ _ | refine le_ext ?_ | refine le_alloc ?_ _ | refine le_setC ?_ _ _ | refine le_drew ?_ | assumption | (refine Nat.le_of_lt ?_; omega) | omega)))
    have PW : BoxAt W w.heap.size #[.slice A d.length c] := by rw [hW.out]; exact (by repeat (with_reducible (first | assumption | exact BoxAt.new _ _ _ | apply BoxAt.set10 | apply BoxAt.set2 | refine BoxAt.set2' ?_ (by omega) | apply BoxAt.setP0 | apply BoxAt.setP1 | refine BoxAt.setO ?_ (by omega) | refine BoxAt.alloc ?_ _ | refine BoxAt.drew ?_ | refine BoxAt.toExt ?_ (by assumption))))
    have QW : BoxAt W (w.heap.size + 1) #[.int .i64 q.1, .slice B q.2.1.length e, .slice C q.2.2.length g] := by
      rw [hW.out]
      simpa using BoxAt.new (w.alloc (.cells #[.slice A d.length c] 29)) #[.int .i64 q.1, .slice B q.2.1.length e, .slice C q.2.2.length g] 55
    obtain ⟨lq, q0, q1, q2, fq⟩ := box3 QW
    clear hW
    go_upto_region 4 with fail
    refine wp_name ?_
    intro WC hWC
    have xC : ∃ y, WC = ext W y := by rw [hWC.out]; exact (by refine Chg.isExt (F := []) ?_ (refl_ext _) (by simp); repeat (with_reducible (first | exact Chg.refl _ _ | exact Nat.le_refl _ | exact Chg.ofExt (by assumption) | refine Chg.trans0 ?_ (by assumption) | refine Chg.extS ?_ _ | refine Chg.alloc ?_ _ | refine Chg.drew ?_ | refine Chg.setCellE ?_ ?_ _ | refine le_addk ?_ _ | refine le_ext ?_ | refine le_alloc ?_ _ | refine le_setC ?_ _ _ | refine le_drew ?_ | assumption | (refine Nat.le_of_lt ?_; omega) | omega)))
    have hE0 : SV 48 1 sRow WC (.slice (some ⟨W.heap.size, 0, none⟩) 0 0) [] [W.heap.size] := by rw [hWC.out]; exact SV.empty W
    have xwC := trans_ext xW xC
    have hyw := trans_ext hw0 xwC
    have PC := PW.toExt xC
    have QC := QW.toExt xC
    obtain ⟨lq1, q10, q11, q12, fq1⟩ := box3 QC
    obtain ⟨lp1, p10, fp1⟩ := bx1 PC
    obtain ⟨ba, oa, Av, cv, hBa, hba0, hca0, hca10, hvv0⟩ := HAT.out w hw0
    subst hBa
    have hba := ltW xwC hba0
    have hca := cellW xwC hba0 hca0
    have hca1 := cellW xwC hba0 hca10
    have HCA := Lib.hid hca10
    have hzW := size_of_ext xW
    have hpW := PW.1
    have hqW := QW.1
    have hWC1 : W.heap.size < WC.heap.size := hE0.lt _ (by simp)
    clear hWC lq q0 q1 q2 fq PW QW
    go_cut [10, 11] (CutW o WC)
    case first =>
      go_region_held3 (fun w' => (∀ a : Addr, a.block < WC.heap.size → w'.cell? a = WC.cell? a) ∧ ∃ y, w' = ext WC y) (first | exact heldE (by refine Chg.isExt (F := []) ?_ (refl_ext _) (by simp); repeat (with_reducible (first | exact Chg.refl _ _ | exact Nat.le_refl _ | exact Chg.ofExt (by assumption) | refine Chg.trans0 ?_ (by assumption) | refine Chg.extS ?_ _ | refine Chg.alloc ?_ _ | refine Chg.drew ?_ | refine Chg.setCellE ?_ ?_ _ | refine le_addk ?_ _ | refine le_ext ?_ | refine le_alloc ?_ _ | refine le_setC ?_ _ _ | refine le_drew ?_ | assumption | (refine Nat.le_of_lt ?_; omega) | omega)))) ((go_at_call 71; refine (specLookupRelation_any HD.out (h1.toExt (trans_ext hyw (by refine Chg.isExt (F := []) ?_ (refl_ext _) (by simp); repeat (with_reducible (first | exact Chg.refl _ _ | exact Nat.le_refl _ | exact Chg.ofExt (by assumption) | refine Chg.trans0 ?_ (by assumption) | refine Chg.extS ?_ _ | refine Chg.alloc ?_ _ | refine Chg.drew ?_ | refine Chg.setCellE ?_ ?_ _ | refine le_addk ?_ _ | refine le_ext ?_ | refine le_alloc ?_ _ | refine le_setC ?_ _ _ | refine le_drew ?_ | assumption | (refine Nat.le_of_lt ?_; omega) | omega)))))).mono ?_; rw [HO.out]; rintro e w3 ⟨u0, u1, F3, rfl, hx3, hS3, hN3, hF3⟩; obtain ⟨A3, c3, rfl, rfl, hI3⟩ := sRel_form hS3; (first | (have L3 : BoxAt w3 WC.heap.size #[.int .i64 0, .slice none 0 0] := BoxAt.toExt (BoxAt.new WC _ _) hx3; obtain ⟨z1, z2, z3, z4⟩ := bx2 L3) | (have L3 : BoxAt w3 WC.heap.size #[.int .i64 0, .slice none 0 0] := BoxAt.toExt (BoxAt.new WC.drew _ _) hx3; obtain ⟨z1, z2, z3, z4⟩ := bx2 L3) | (have L3 : BoxAt w3 WC.heap.size #[.int .i64 0, .slice none 0 0] := BoxAt.toExt (BoxAt.new WC _ _).drew hx3; obtain ⟨z1, z2, z3, z4⟩ := bx2 L3) | skip)))
      all_goals
        go_wp2_with fail
        go_meet
        have hz3 := size_of_ext hx3
        (first | simp only [World.size_alloc, World.drew] at hz3 hF3 | simp only [World.drew] at hz3 hF3)
        first
          | exact ⟨w3.heap.size, A3, c3, F3, rfl, rfl, BoxAt.new _ _ _, OD.toExt hI3 (alloc_ext _ _), fun x hx => by have := hF3 x hx; omega, by omega, (by refine Chg.isExt (F := []) ?_ (refl_ext _) (by simp); repeat (with_reducible (first | exact Chg.refl _ _ | exact Nat.le_refl _ | exact Chg.ofExt (by assumption) | refine Chg.trans0 ?_ (by assumption) | refine Chg.extS ?_ _ | refine Chg.alloc ?_ _ | refine Chg.drew ?_ | refine Chg.setCellE ?_ ?_ _ | refine le_addk ?_ _ | refine le_ext ?_ | refine le_alloc ?_ _ | refine le_setC ?_ _ _ | refine le_drew ?_ | assumption | (refine Nat.le_of_lt ?_; omega) | omega)))⟩
          | exact ⟨WC.heap.size, A3, c3, F3, rfl, rfl, (by repeat (with_reducible (first | assumption | exact BoxAt.new _ _ _ | apply BoxAt.set2 | refine BoxAt.set2' ?_ (by omega) | apply BoxAt.setP0 | apply BoxAt.setP1 | refine BoxAt.setO ?_ (by omega) | refine BoxAt.alloc ?_ _ | refine BoxAt.drew ?_ | refine BoxAt.toExt ?_ (by assumption)))), OD.chg (G := [WC.heap.size]) hI3 (by repeat (with_reducible (first | exact Chg.refl _ _ | refine Chg.trans0 ?_ (by assumption) | refine Chg.extS ?_ _ | refine Chg.alloc ?_ _ | refine Chg.drew ?_ | refine Chg.setCell ?_ (.inl (by simp)) _))) (fun x hx hm => by have := hF3 x hx; rw [List.mem_singleton.1 hm] at this; omega), fun x hx => by have := hF3 x hx; omega, by omega, (by refine Chg.isExt (F := []) ?_ (refl_ext _) (by simp); repeat (with_reducible (first | exact Chg.refl _ _ | exact Nat.le_refl _ | exact Chg.ofExt (by assumption) | refine Chg.trans0 ?_ (by assumption) | refine Chg.extS ?_ _ | refine Chg.alloc ?_ _ | refine Chg.drew ?_ | refine Chg.setCellE ?_ ?_ _ | refine le_addk ?_ _ | refine le_ext ?_ | refine le_alloc ?_ _ | refine le_setC ?_ _ _ | refine le_drew ?_ | assumption | (refine Nat.le_of_lt ?_; omega) | omega)))⟩
    obtain ⟨bX, A3, c3, F3, rfl, rfl, BX, hvX, hF3, hbX, hxX⟩ := hcut
    obtain ⟨w4, rfl⟩ : ∃ W, W = wc := ⟨_, rfl⟩
    obtain rfl := HOR.out
    simp only [Option.getD_some, Option.isSome_some] at BX hvX ⊢
    have P4 := PC.toExt hxX
    have Q4 := QC.toExt hxX
    have X4 := BX
    have xw4 := trans_ext xwC hxX
    have hE4 := hE0.toExt hxX
    have hz4 := size_of_ext xw4
    have hzX := size_of_ext hxX
    have HF3 := Lib.hid hF3
    have HVX := Lib.hid hvX
    clear lq1 q10 q11 q12 fq1 lp1 p10 fp1 PC QC hca hca1 hba hca0 hca10 BX hE0 hF3 hvX
    go_wp2_with fail
    go_loopw [9, 12] (fun v i wr => ∃ (k : Nat) (F : List Nat), i = .int .i64 k ∧ k ≤ rows.length ∧ SV 48 1 sRow wr v ((rows.take k).flatMap (walk1 d ats x.2 row)) F ∧ Hid F.Nodup ∧ Hid (∀ y ∈ F, y = W.heap.size ∨ w4.heap.size ≤ y) ∧ Chg [W.heap.size] w4 wr) (fun _ i _ => rows.length - (intOf i).toNat)
    case atStart => exact ⟨0, _, rfl, by omega, by simpa using hE4, Lib.hid (by simp), Lib.hid (by simp), Chg.refl _ _⟩
    case round =>
      as_aux_lemma =>
      obtain ⟨k, F, rfl, hk, hS, HN, HF, hC⟩ := hrel
      have hxw : ∃ y, wr = ext w y := hC.isExt xw4 (by simp; omega)
      have X5 := X4.chg hC (by simp; omega)
      have P5 := P4.chg hC (by simp; omega)
      have Q5 := Q4.chg hC (by simp; omega)
      obtain ⟨lx5, x50, x51, fx5⟩ := bx2 X5
      by_cases hlt : k < rows.length
      · have hrl := HRW.out _ (List.getElem_mem hlt)
        have HX9 : Hid (x.2.length ≤ 1000000000) := Lib.hid (hrl ▸ HWR.out _ (List.getElem_mem hlt))
        have hst := flat_step (f := walk1 d ats x.2 row) hlt
        have hbd := flat_take_len (f := walk1 d ats x.2 row) (l := rows) (k := k + 1)
        rw [← HWK.out] at hbd
        have hbd2 := Nat.le_trans hbd HW8.out
        have hvT := (vII_get (sII_v _ _ _ (OD.chg (G := [W.heap.size]) HVX.out hC (fun b hb h => by have := HF3.out b hb; rw [List.mem_singleton.1 h] at this; omega)))).2
        obtain ⟨br, orr, A5, c5, rfl, hbr, hcr, hvr⟩ := hvT.atV hlt
        obtain ⟨r, hr9⟩ : ∃ r, rows[k] = r := ⟨_, rfl⟩
        rw [hr9] at hrl hst hcr hvr
        obtain ⟨fl, hfl⟩ : ∃ l, (rows.take k).flatMap (walk1 d ats x.2 row) = l := ⟨_, rfl⟩
        rw [hfl] at hst hS
        have HST := Lib.hid hst
        have HBD := Lib.hid hbd2
        have HS := Lib.hid hS
        have HSlt := Lib.hid hS.lt
        have HLR := Lib.hid hrl
        have HCR := Lib.hid hcr
        have hbr0 := hbr
        have hE3 := SV.empty (α := Int) (te := 3) (size := 1) (E := sI) wr
        have hRr := hR.toExt (trans_ext hxw (alloc_ext wr (.cells #[] 3)))
        have HRN := Lib.hid (show row ≠ [] by intro h; have := HRL.out; rw [h] at this; simp at this; omega)
        clear hr9 hfl hst hbd hbd2 hS hrl hvT hcr
        obtain ⟨wo, rfl⟩ : ∃ wo : World, wo = wr := ⟨_, rfl⟩
        go_wp2_with (at_builtin; refine wpList_appV (E := sI) (V := vI) (es := row) rfl _ _ _ rfl tI rfl hE3 rfl HRL.out.symm hRr vI_s vI_1 (by have := HRL.out; simp; omega) (by omega) ?_; intro v' w' F' hS' hC' hF'; rw [List.nil_append] at hS'; obtain ⟨g, c6, rfl, hgF, _, _⟩ := hS'.block HRN.out; rw [HRL.out] at hS' ⊢)
        have hx6 : ∃ y, w' = ext wo y := hC'.isExt (alloc_ext _ _) (by simp)
        have hgo : wo.heap.size ≤ g := by
          rcases hF' g hgF with h | h
          · simp at h; omega
          · simp at h; omega
        have HFo : Hid (∀ b ∈ F', wo.heap.size ≤ b) := Lib.hid (fun b hb => by
          rcases hF' b hb with h | h
          · simp at h; omega
          · simp at h; omega)
        clear hF' hgF hC' hE3 hRr lx5 x50 x51 fx5 hbr
        go_loopw [14, 15] (fun f i wq => ∃ (j : Nat) (X : List Int) (t : Bool), i = .int .i64 j ∧ j ≤ x.2.length ∧ f = .bool t ∧ X.length = nr ∧ SV 3 1 sI wq (.slice (some ⟨g, 0, none⟩) nr c6) X F' ∧ Hid (fitX row x.2 r = if t = true then fitX X (x.2.drop j) (r.drop j) else none) ∧ Chg [g] w' wq) (fun _ i _ => x.2.length - (intOf i).toNat)
        case atStart => exact ⟨0, row, true, rfl, by omega, rfl, HRL.out, hS', Lib.hid (by simp), Chg.refl _ _⟩
        case round =>
          as_aux_lemma =>
          obtain ⟨j, X, t, rfl, hj, rfl, hXL, hSX, HT, hCq⟩ := hrel
          have HXL := Lib.hid hXL
          have HSX := Lib.hid hSX
          have hyq : ∃ y, wr = ext wo y := hCq.isExt hx6 (by simpa using hgo)
          have hxq := trans_ext hxw hyq
          obtain ⟨lx6, x60, x61, fx6⟩ := bx2 (X5.toExt hyq)
          obtain ⟨lp6, p60, fp6⟩ := bx1 (P5.toExt hyq)
          obtain ⟨lq6, q60, q61, q62, fq6⟩ := box3 (Q5.toExt hyq)
          have hSo := HS.out.toExt hyq
          have hvX := hSX.toView sI_v
          clear hXL hSX
          by_cases hlt2 : j < x.2.length
          · cases t with
            | false =>
              have HK := Lib.hid (show (rows.take (k + 1)).flatMap (walk1 d ats x.2 row) = fl by rw [HST.out, walk1_none (by rw [HT.out]; rfl), List.append_nil])
              go_wp2
              exact ⟨⟨k + 1, F, by go_num, by omega, by rw [HK.out]; exact hSo, HN, HF, hC.trans0 hyq⟩, by simp [intOf]; omega⟩
            | true =>
              obtain ⟨bv, ov, rfl, hbv, hcv⟩ := (hvv0.toExt hxq).atI' (n := j) hlt2
              have hvb := HVS.out _ (List.getElem_mem hlt2)
              have ht := HT.out
              rw [if_pos rfl, fitX_step hlt2 (by rw [HLR.out]; exact hlt2)] at ht
              obtain ⟨bz, oz, rfl, hbz, hcz⟩ := (hvr.toExt hyq).atI' (n := j) (by rw [HLR.out]; exact hlt2)
              have hjl : (j : Int) < (r.length : Int) := by rw [HLR.out]; omega
              rw [← getDl x.2 0 hlt2] at hvb
              obtain ⟨v, hv⟩ : ∃ v, x.2.getD j 0 = v := ⟨_, rfl⟩
              rw [hv] at hcv hvb ht
              obtain ⟨m, rfl⟩ := Int.eq_ofNat_of_zero_le hvb.1
              rw [Int.toNat_natCast] at ht
              have hmn : m < nr := by have := HNR.out; omega
              obtain ⟨_, _, e9, _, hcx⟩ := hvX.atI' (n := m) (by rw [HXL.out]; exact hmn)
              injection e9 with e9
              injection e9 with e9 e10 _
              subst e9 e10
              rw [Nat.zero_add] at hcx
              obtain ⟨z, hz9⟩ : ∃ z, r.getD j 0 = z := ⟨_, rfl⟩
              obtain ⟨u, hu⟩ : ∃ u, X.getD m 0 = u := ⟨_, rfl⟩
              rw [hz9] at hcz ht
              rw [hu] at hcx ht
              have hcr := cellW hyq hbr0 HCR.out
              have hbr := ltW hyq hbr0
              have hcaq := cellW hxq hba0 HCA.out
              have hbaq := ltW hxq hba0
              have HTT := Lib.hid ht
              have hg6 := HSX.out.cell HXL.out (j := 0) (by omega)
              obtain ⟨_, _, hg6⟩ := hg6
              clear hv hvb ht hz9 hu HT
              go_upto_region 14 with fail
              go_cut [14] (fun vb wx => ∃ tt : Bool, vb = .bool tt ∧ Hid (fitX row x.2 r = if tt = true then fitX (X.set m z) (x.2.drop (j + 1)) (r.drop (j + 1)) else none) ∧ ∃ y, wx = ext wr y)
              case first =>
                by_cases hu1 : u = -1
                · have hbe : (u == -1) = true := by simpa using hu1
                  have HT2 := Lib.hid (show fitX row x.2 r = if true = true then fitX (X.set m z) (x.2.drop (j + 1)) (r.drop (j + 1)) else none by rw [HTT.out, if_pos (.inl hu1), if_pos rfl])
                  clear hu1
                  refine wp_region_ext (by kernel_rfl) (by kernel_rfl) ?_
                  repeat (go_big_quiet_step (fail))
                  refine wpQuiet_nil ?_
                  rintro _ ⟨zz, rfl⟩
                  go_wp2_with fail
                  go_meet
                  exact ⟨true, rfl, HT2, zz, rfl⟩
                · have hbe : (u == -1) = false := by simpa using hu1
                  by_cases hu2 : u = z
                  · have hbe2 : (u == z) = true := by simpa using hu2
                    have HT2 := Lib.hid (show fitX row x.2 r = if true = true then fitX (X.set m z) (x.2.drop (j + 1)) (r.drop (j + 1)) else none by rw [HTT.out, if_pos (.inr hu2), if_pos rfl])
                    clear hu1 hu2
                    refine wp_region_ext (by kernel_rfl) (by kernel_rfl) ?_
                    repeat (go_big_quiet_step (fail))
                    refine wpQuiet_nil ?_
                    rintro _ ⟨zz, rfl⟩
                    go_wp2_with fail
                    go_meet
                    exact ⟨true, rfl, HT2, zz, rfl⟩
                  · have hbe2 : (u == z) = false := by simpa using hu2
                    have HT2 := Lib.hid (show fitX row x.2 r = if false = true then fitX (X.set m z) (x.2.drop (j + 1)) (r.drop (j + 1)) else none by rw [HTT.out, if_neg (by rintro (h | h); exact hu1 h; exact hu2 h), if_neg (by simp)])
                    clear hu1 hu2
                    refine wp_region_ext (by kernel_rfl) (by kernel_rfl) ?_
                    repeat (go_big_quiet_step (fail))
                    refine wpQuiet_nil ?_
                    rintro _ ⟨zz, rfl⟩
                    go_wp2_with fail
                    go_meet
                    exact ⟨false, rfl, HT2, zz, rfl⟩
              obtain ⟨tt, rfl, HT2, hxz⟩ := hcut
              obtain ⟨wz, rfl⟩ : ∃ W, W = wc := ⟨_, rfl⟩
              have hyz := trans_ext hyq hxz
              obtain ⟨lx7, x70, x71, fx7⟩ := bx2 (X5.toExt hyz)
              have hc7 := cellW hyz hbr0 HCR.out
              have hb7 := ltW hyz hbr0
              have hc8 := cellW hxz hbz hcz
              have hb8 := ltW hxz hbz
              have hS7 := HSX.out.toExt hxz
              have hcell := hS7.cell HXL.out (j := m) (by omega)
              obtain ⟨⟨u9, hu9⟩, hf9, hg9⟩ := hcell
              obtain ⟨s1, s2⟩ := hS7.set1 HXL.out (k := m) (by omega) (u := .int .i64 z) (d := z) (fun _ => ⟨rfl, rfl⟩)
              have HS1 := Lib.hid s1
              have HC1 := Lib.hid ((hCq.trans0 hxz).trans s2 (fun y hy => .inl hy))
              have hjb : x.2.length ≤ 1000000000 := HX9.out
              clear s1 s2 hS7 lx6 x60 x61 fx6 lp6 p60 fp6 lq6 q60 q61 q62 fq6 hcx hcr hbr hcaq hbaq hg6
              go_wp2_with fail
              exact ⟨⟨j + 1, X.set m z, tt, by go_num, by omega, rfl, by rw [List.length_set]; exact HXL.out, HS1.out, HT2, HC1.out⟩, by simp [intOf]; omega⟩
          · cases t with
            | false =>
              have HK := Lib.hid (show (rows.take (k + 1)).flatMap (walk1 d ats x.2 row) = fl by rw [HST.out, walk1_none (by rw [HT.out]; rfl), List.append_nil])
              go_wp2
              exact ⟨⟨k + 1, F, by go_num, by omega, by rw [HK.out]; exact hSo, HN, HF, hC.trans0 hyq⟩, by simp [intOf]; omega⟩
            | true =>
              have hfx : fitX row x.2 r = some X := by rw [HT.out, if_pos rfl, fitX_end (by omega)]
              obtain ⟨l9, hl9⟩ : ∃ l, walkL d ats X = l := ⟨_, rfl⟩
              have hk9 : (rows.take (k + 1)).flatMap (walk1 d ats x.2 row) = fl ++ l9 := by rw [HST.out, walk1_some hfx, hl9]
              have hlen : fl.length + l9.length ≤ 2000000000 := by have := HBD.out; rw [hk9, List.length_append] at this; omega
              have HK := Lib.hid hk9
              have HL9 := Lib.hid (show walkL d (q.2.1.drop (n + 1)) X = l9 by rw [HATS.out]; exact hl9)
              have hw0q := trans_ext hw0 hxq
              have HCC := Lib.hid (hC.trans0 hyq)
              have hFw : Hid (∀ b ∈ F, b < wr.heap.size) := Lib.hid (fun b hb => Nat.lt_of_lt_of_le (HSlt.out b hb) (size_of_ext hyq))
              have hzq := size_of_ext hyq
              have hzC := hC.size
              clear hfx hl9 hk9 HT
              go_wp2_with (first
                | (go_at_call 103; refine (HIH.out (n + 1) _ c6 X wr (by omega) hw0q HXL.out hvX).mono ?_; rintro e w9 ⟨A9, c9, F9, rfl, hx9, hS9, hN9, hF9⟩; rw [HL9.out] at hS9 ⊢; obtain ⟨G9, hL9, hN99, hG9⟩ := hS9.whole hN9; have hN3 := nodup_more HN.out hN99 hFw.out (fun b hb => hF9 b (hG9 b hb)))
                | (at_builtin; refine wpList_appP (E := sRow) rfl _ _ _ rfl tIIr rfl (hSo.toExt hx9) HN.out rfl rfl hL9 hN3 hlen (by omega) ?_; intro v2 w2 F2 hS2 hC2 hN2 hF2))
              refine ⟨⟨k + 1, F2, by go_num, by omega, by rw [HK.out]; exact hS2, Lib.hid hN2, Lib.hid (fun b hb => ?_), (HCC.out.trans0 hx9).trans hC2 (fun b hb => ?_)⟩, by simp [intOf]; omega⟩
              · rcases hF2 b hb with h | h | h
                · exact HF.out b h
                · have := hF9 b (hG9 b h); omega
                · have := size_of_ext hx9; omega
              · rcases HF.out b hb with h | h
                · exact .inl (by simp [h])
                · exact .inr h
      · obtain rfl : k = rows.length := by omega
        rw [List.take_of_length_le (Nat.le_refl _)] at hS
        go_wp2
        go_ret
        refine walkP_mk HWK.out rfl hxw hS HN.out (fun b hb => ?_)
        rcases HF.out b hb with h | h
        · omega
        · omega
end Go.Proofs.Ytfigcfajkilhiaa

/- The rows of an atom: what the loops over one row come to. No program in it. -/
namespace Go.Proofs.Ytfigcfajkilhiaa
open Go.RowKit

def fitI (xs row : List Int) (k : Nat) : Bool := (List.range k).all fun j => decide (valAt xs row (xs.getD j 0) = row.getD j 0)
def fitS (vars xs row : List Int) (k : Nat) : Bool := (List.range k).all fun j => decide (xs.getD j 0 ∈ vars) && decide (valAt xs row (xs.getD j 0) = row.getD j 0)
theorem fitI_step {xs row : List Int} {k : Nat} : fitI xs row (k + 1) = (fitI xs row k && decide (valAt xs row (xs.getD k 0) = row.getD k 0)) := by
  unfold fitI
  rw [List.range_succ, List.all_append]
  simp
theorem fitS_step {vars xs row : List Int} {k : Nat} : fitS vars xs row (k + 1) = (fitS vars xs row k && (decide (xs.getD k 0 ∈ vars) && decide (valAt xs row (xs.getD k 0) = row.getD k 0))) := by
  unfold fitS
  rw [List.range_succ, List.all_append]
  simp
theorem fitI_all {xs row : List Int} (hl : row.length = xs.length) : fitI xs row xs.length = rowFit xs row := by
  rw [Bool.eq_iff_iff]
  unfold fitI rowFit
  rw [List.all_eq_true, decide_eq_true_eq]
  constructor
  · intro h
    apply List.ext_getElem
    · simp [hl]
    · intro i h1 h2
      have hi : i < xs.length := by simpa using h1
      have := h i (List.mem_range.2 hi)
      rw [decide_eq_true_eq, getDl _ _ hi, getDl _ _ h2] at this
      rw [List.getElem_map]
      exact this
  · intro h j hj
    have hj := List.mem_range.1 hj
    rw [decide_eq_true_eq, getDl _ _ hj, getDl row _ (show j < row.length by omega)]
    have : (xs.map (valAt xs row)).getD j 0 = row.getD j 0 := by rw [h]
    rw [getDl _ _ (show j < (xs.map (valAt xs row)).length by simpa using hj), List.getElem_map, getDl row _ (show j < row.length by omega)] at this
    exact this
theorem fitS_all {vars xs row : List Int} (hl : row.length = xs.length) : fitS vars xs row xs.length = (rowFit xs row && xs.all fun v => decide (v ∈ vars)) := by
  rw [← fitI_all hl, Bool.eq_iff_iff]
  unfold fitI fitS
  simp only [List.all_eq_true, Bool.and_eq_true, decide_eq_true_eq]
  constructor
  · intro h
    refine ⟨fun j hj => (h j hj).2, fun v hv => ?_⟩
    obtain ⟨i, hi, rfl⟩ := List.getElem_of_mem hv
    have := (h i (List.mem_range.2 hi)).1
    rwa [getDl _ _ hi] at this
  · rintro ⟨h1, h2⟩ j hj
    have hj' := List.mem_range.1 hj
    exact ⟨by rw [getDl _ _ hj']; exact h2 _ (List.getElem_mem hj'), h1 j hj⟩
/-- the values of the variables met so far -/
def VOk (xs row L : List Int) (k : Nat) : Prop := L.length = 5 ∧ (fitI xs row k = true → ∀ j, j < k → j < xs.length → L.getD (xs.getD j 0).toNat 0 = valAt xs row (xs.getD j 0))
theorem VOk.step {xs row L : List Int} {k : Nat} (h : VOk xs row L k) (hb : ∀ v ∈ xs, 0 ≤ v ∧ v ≤ 4) (hk : k < xs.length) : VOk xs row (L.set (xs.getD k 0).toNat (row.getD k 0)) (k + 1) := by
  obtain ⟨h1, h2⟩ := h
  refine ⟨by simpa using h1, fun hf j hj hjl => ?_⟩
  rw [fitI_step, Bool.and_eq_true, decide_eq_true_eq] at hf
  have bk := hb _ (List.getElem_mem hk)
  have bj := hb _ (List.getElem_mem hjl)
  rw [getDl _ _ hk] at hf ⊢
  rw [getDl _ _ hjl]
  by_cases e : xs[k].toNat = xs[j].toNat
  · have e2 : xs[j] = xs[k] := by omega
    rw [e2, getD_set_self (by omega)]
    exact hf.2.symm
  · rw [getD_set_ne e]
    have hjk : j < k := by
      rcases Nat.lt_or_eq_of_le (Nat.le_of_lt_succ hj) with k1 | k1
      · exact k1
      · subst k1; exact absurd rfl e
    have := h2 hf.1 j hjk hjl
    rwa [getDl _ _ hjl] at this
theorem VOk.done {xs row L vars : List Int} (h : VOk xs row L xs.length) (hf : fitI xs row xs.length = true) (hv : ∀ v ∈ vars, v ∈ xs) : pickL L vars = vars.map (valAt xs row) := by
  unfold pickL
  refine List.map_congr_left fun v hvm => ?_
  obtain ⟨i, hi, rfl⟩ := List.getElem_of_mem (hv v hvm)
  have := h.2 hf i hi hi
  rwa [getDl _ _ hi] at this
/-- the rows that fit, as rows over the variables -/
def fitR (xs : List Int) (rows : List (List Int)) : List (List Int) := (rows.filter (rowFit xs)).map fun row => (avars 5 0 xs).map (valAt xs row)
theorem fitR_step {xs : List Int} {rows : List (List Int)} {k : Nat} (h : k < rows.length) : fitR xs (rows.take (k + 1)) = fitR xs (rows.take k) ++ (if rowFit xs rows[k] = true then [(avars 5 0 xs).map (valAt xs rows[k])] else []) := by
  unfold fitR
  rw [List.take_succ_eq_append_getElem h, List.filter_append, List.filter_cons, List.filter_nil, List.map_append]
  by_cases h1 : rowFit xs rows[k] = true <;> simp [h1]
theorem fitR_len {xs : List Int} {rows : List (List Int)} {k : Nat} : (fitR xs (rows.take k)).length ≤ k := by
  unfold fitR
  rw [List.length_map]
  exact Nat.le_trans (List.length_filter_le _ _) (by simp; omega)
theorem fitR_el {xs : List Int} {rows : List (List Int)} : ∀ x ∈ fitR xs rows, x.length ≤ 5 := fun x hx => by
  unfold fitR at hx
  obtain ⟨r, _, rfl⟩ := List.mem_map.1 hx
  rw [List.length_map]
  exact avars_length 5 0 xs
theorem atomBd_yes {d : Dbd} {a : At} (h1 : atFit d a = true) (h2 : ∀ v ∈ a.2, 0 ≤ v ∧ v ≤ 4) : atomBd d a = (((avars 5 0 a.2).length : Int), sortR (fitR a.2 (relOf d a).2)) := by
  unfold atomBd fitR
  rw [if_pos ⟨h1, h2⟩]
theorem atomBd_no {d : Dbd} {a : At} (h : ¬ (atFit d a = true ∧ ∀ v ∈ a.2, 0 ≤ v ∧ v ≤ 4)) : atomBd d a = (((avars 5 0 a.2).length : Int), []) := by
  unfold atomBd
  rw [if_neg h]
/-- the reference's rows: none where a variable is out of range -/
def fitRS (xs : List Int) (rows : List (List Int)) : List (List Int) := (rows.filter fun row => rowFit xs row && xs.all fun v => decide (v ∈ avars 5 0 xs)).map fun row => (avars 5 0 xs).map (valAt xs row)
theorem fitRS_step {xs : List Int} {rows : List (List Int)} {k : Nat} (h : k < rows.length) : fitRS xs (rows.take (k + 1)) = fitRS xs (rows.take k) ++ (if (rowFit xs rows[k] && xs.all fun v => decide (v ∈ avars 5 0 xs)) = true then [(avars 5 0 xs).map (valAt xs rows[k])] else []) := by
  unfold fitRS
  rw [List.take_succ_eq_append_getElem h, List.filter_append, List.filter_cons, List.filter_nil, List.map_append]
  by_cases h1 : (rowFit xs rows[k] && xs.all fun v => decide (v ∈ avars 5 0 xs)) = true <;> simp [h1]
theorem fitRS_len {xs : List Int} {rows : List (List Int)} {k : Nat} : (fitRS xs (rows.take k)).length ≤ k := by
  unfold fitRS
  rw [List.length_map]
  exact Nat.le_trans (List.length_filter_le _ _) (by simp; omega)
theorem fitRS_el {xs : List Int} {rows : List (List Int)} : ∀ x ∈ fitRS xs rows, x.length = (avars 5 0 xs).length := fun x hx => by
  unfold fitRS at hx
  obtain ⟨r, _, rfl⟩ := List.mem_map.1 hx
  rw [List.length_map]
theorem fitRS_eq {d : Dbd} {a : At} (h : atFit d a = true) : newR ((avars 5 0 a.2).length : Int) (fitRS a.2 (relOf d a).2) = some (atomBd d a) := by
  obtain ⟨_, hT, hl⟩ := atFit_some h
  have hcnt := hT.cnt
  have h5 := avars_length 5 0 a.2
  by_cases hc : ∀ v ∈ a.2, 0 ≤ v ∧ v ≤ 4
  · have e : fitRS a.2 (relOf d a).2 = fitR a.2 (relOf d a).2 := by
      unfold fitRS fitR
      have : (a.2.all fun v => decide (v ∈ avars 5 0 a.2)) = true := by
        rw [List.all_eq_true]
        intro v hv
        rw [decide_eq_true_eq, mem_av5 hc]
        exact hv
      simp only [this, Bool.and_true]
    rw [e, atomBd_yes h hc]
    have hok := atomBd_ok (d := d) (a := a)
    unfold atomVR at hok
    rw [atomBd_yes h hc] at hok
    refine newR_some (rowsIn_iff.2 fun r hr => ⟨?_, hok.rv r (mem_sortR.2 hr)⟩) (by omega) (by omega) hok.cnt
    have := hok.rl r (mem_sortR.2 hr)
    simp only at this
    rw [this]
  · have e : fitRS a.2 (relOf d a).2 = [] := by
      unfold fitRS
      have : (a.2.all fun v => decide (v ∈ avars 5 0 a.2)) = false := by
        rw [Bool.eq_false_iff]
        intro h9
        rw [List.all_eq_true] at h9
        refine hc fun v hv => ?_
        have := (mem_avars 5 0 _ _).1 (of_decide_eq_true (h9 v hv))
        omega
      simp only [this, Bool.and_false]
      simp
    rw [e, atomBd_no (fun k => hc k.2)]
    exact newR_some (rowsIn_iff.2 (by simp)) (by omega) (by omega) (by simp [sortR])
end Go.Proofs.Ytfigcfajkilhiaa

/- Relations projected: the program's way and the reference's. -/
namespace Go.Proofs.Ytfigcfajkilhiaa
open Go.RowKit

def projR (d : Rd) (cols : List Int) : Option Rd := if rowsB d.1 d.2 = true ∧ fitsC d.1 cols = true then newR (cols.length : Int) (d.2.map fun r => pickL r cols) else none
theorem proj_in {a : Int} {rows : List (List Int)} {cols : List Int} (h : rowsB a rows = true) (hf : fitsC a cols = true) : ∀ r ∈ rows, ∀ v ∈ cols, 0 ≤ v ∧ v < r.length := fun r hr v hv => by
  have h1 := ((rowsB_iff.1 h).2.2.2.1 r hr).1
  have h2 := (fitsC_iff.1 hf).2 v hv
  omega
theorem map_take_step {rows : List (List Int)} {cols : List Int} {k : Nat} (h : k < rows.length) : (rows.take (k + 1)).map (fun r => pickL r cols) = (rows.take k).map (fun r => pickL r cols) ++ [pickL rows[k] cols] := by
  rw [List.take_succ_eq_append_getElem h, List.map_append]; rfl
set_option maxRecDepth 100000 in
set_option maxHeartbeats 8000000 in
theorem Project_any {a : Int} {A A' : Option Addr} {c c' : Nat} {rows : List (List Int)} {cols : List Int} {w : World} (ha : I64 a) (hx : rows.length ≤ 1000000000) (hxl : ∀ x ∈ rows, x.length ≤ 1000000000) (h1 : RII w A rows) (hc : cols.length ≤ 1000000000) (h2 : RI w A' cols) :
    Calls Try.prog 80 #[.agg #[.int .i64 a, .slice A rows.length c], .slice A' cols.length c'] w (RelOut (projR (a, rows) cols) w) := by
  obtain ⟨ha1, ha2⟩ := ha
  have Hxl := Lib.hid hxl
  obtain ⟨t, ht⟩ : ∃ t, rowsB a rows = t := ⟨_, rfl⟩
  have HT := Lib.hid ht
  clear hxl ht
  go_enter Try.func80, Try.ntmps80
  go_upto_region 1 with fail
  refine wp_name ?_
  intro W hW
  have xW : ∃ y, W = ext w y := by rw [hW.out]; exact (by refine Chg.isExt (F := []) ?_ (refl_ext _) (by simp); repeat (with_reducible (first | exact Chg.refl _ _ | exact Nat.le_refl _ | exact Chg.ofExt (by assumption) | refine Chg.trans0 ?_ (by assumption) | refine Chg.extS ?_ _ | refine Chg.alloc ?_ _ | refine Chg.drew ?_ | refine Chg.setCellE ?_ ?_ _ | refine le_addk ?_ _ | refine le_ext ?_ | refine le_alloc ?_ _ | refine le_setC ?_ _ _ | refine le_drew ?_ | assumption | (refine Nat.le_of_lt ?_; omega) | omega)))
  have PW : BoxAt W w.heap.size #[.int .i64 a, .slice A rows.length c] := by rw [hW.out]; exact (by repeat (with_reducible (first | assumption | exact BoxAt.new _ _ _ | apply BoxAt.set2 | refine BoxAt.set2' ?_ (by omega) | apply BoxAt.setP0 | apply BoxAt.setP1 | refine BoxAt.setO ?_ (by omega) | refine BoxAt.alloc ?_ _ | refine BoxAt.drew ?_ | refine BoxAt.toExt ?_ (by assumption))))
  have RW : BoxAt W (w.heap.size + 1) #[.int .i64 0, .slice none 0 0] := by
    rw [hW.out]
    simpa using BoxAt.new (w.alloc (.cells #[.int .i64 a, .slice A rows.length c] 39)) #[.int .i64 0, .slice none 0 0] 39
  obtain ⟨lp, p0, p0', fp⟩ := bx2 PW
  obtain ⟨lr, r0, r0', fr⟩ := bx2 RW
  clear hW
  cases t with
  | false =>
    have HZ := Lib.hid (show projR (a, rows) cols = none by unfold projR; rw [HT.out]; simp)
    go_wp2_with (go_at_call 122; refine (IsValidRelation_w hx Hxl.out (h1.toExt xW)).mono ?_; rintro e w3 ⟨rfl, hx3⟩; rw [HT.out]; obtain ⟨l3, a3, a3', f3⟩ := bx2 (RW.toExt hx3))
    refine bodyPost_ret (v := .tuple #[.agg #[.int .i64 0, .slice none 0 0], .bool false]) (by simp [results, Try.results80, go_sem, *]) rfl (relOut_none HZ.out rfl (by refine Chg.isExt (F := []) ?_ (refl_ext _) (by simp); repeat (with_reducible (first | exact Chg.refl _ _ | exact Nat.le_refl _ | exact Chg.ofExt (by assumption) | refine Chg.trans0 ?_ (by assumption) | refine Chg.extS ?_ _ | refine Chg.alloc ?_ _ | refine Chg.drew ?_ | refine Chg.setCellE ?_ ?_ _ | refine le_addk ?_ _ | refine le_ext ?_ | refine le_alloc ?_ _ | refine le_setC ?_ _ _ | refine le_drew ?_ | assumption | (refine Nat.le_of_lt ?_; omega) | omega))))
  | true =>
    have hv := rowsB_iff.1 HT.out
    have ha5 := hv.1
    have ha6 := hv.2.1
    obtain ⟨t2, ht2⟩ : ∃ t, fitsC a cols = t := ⟨_, rfl⟩
    have HT2 := Lib.hid ht2
    have HV := Lib.hid hv
    clear ht2 hv
    cases t2 with
    | false =>
      have HZ := Lib.hid (show projR (a, rows) cols = none by unfold projR; rw [HT2.out]; simp)
      go_wp2_with (first
        | (go_at_call 122; refine (IsValidRelation_w hx Hxl.out (h1.toExt xW)).mono ?_; rintro e w3 ⟨rfl, hx3⟩; rw [HT.out]; obtain ⟨l3, a3, a3', f3⟩ := bx2 (RW.toExt hx3); obtain ⟨l4, a4, a4', f4⟩ := bx2 (PW.toExt hx3))
        | (go_at_call 148; refine (columnsFit_any (by omega) (by omega) hc (h2.toExt (trans_ext xW hx3))).mono ?_; rintro e w4 ⟨rfl, rfl⟩; rw [HT2.out]))
      refine bodyPost_ret (v := .tuple #[.agg #[.int .i64 0, .slice none 0 0], .bool false]) (by simp [results, Try.results80, go_sem, *]) rfl (relOut_none HZ.out rfl (by refine Chg.isExt (F := []) ?_ (refl_ext _) (by simp); repeat (with_reducible (first | exact Chg.refl _ _ | exact Nat.le_refl _ | exact Chg.ofExt (by assumption) | refine Chg.trans0 ?_ (by assumption) | refine Chg.extS ?_ _ | refine Chg.alloc ?_ _ | refine Chg.drew ?_ | refine Chg.setCellE ?_ ?_ _ | refine le_addk ?_ _ | refine le_ext ?_ | refine le_alloc ?_ _ | refine le_setC ?_ _ _ | refine le_drew ?_ | assumption | (refine Nat.le_of_lt ?_; omega) | omega))))
    | true =>
      have HP := Lib.hid (proj_in HT.out HT2.out)
      have hcl := (fitsC_iff.1 HT2.out).1
      go_wp2_with (first
        | (go_at_call 122; refine (IsValidRelation_w hx Hxl.out (h1.toExt xW)).mono ?_; rintro e w3 ⟨rfl, hx3⟩; rw [HT.out]; obtain ⟨l3, a3, a3', f3⟩ := bx2 (RW.toExt hx3); obtain ⟨l4, a4, a4', f4⟩ := bx2 (PW.toExt hx3))
        | (go_at_call 148; refine (columnsFit_any (by omega) (by omega) hc (h2.toExt (trans_ext xW hx3))).mono ?_; rintro e w4 ⟨rfl, rfl⟩; rw [HT2.out]))
      have R3 := RW.toExt hx3
      have hxw3 := trans_ext xW hx3
      have hw3s := R3.1
      clear lp p0 p0' fp lr r0 r0' fr PW RW
      go_loopw [6, 23] (fun v i wr => ∃ (k : Nat) (F : List Nat), i = .int .i64 k ∧ k ≤ rows.length ∧ SV 48 1 sRow wr v ((rows.take k).map fun r => pickL r cols) F ∧ Hid F.Nodup ∧ Hid (∀ b ∈ F, w3.heap.size ≤ b) ∧ (∃ y, wr = ext w3 y)) (fun _ i _ => rows.length - (intOf i).toNat)
      case atStart => exact ⟨0, [], rfl, by omega, SV.nil, Lib.hid (by simp), Lib.hid (by simp), refl_ext w3⟩
      case round =>
        obtain ⟨k, F, rfl, hk, hS, HN, HF, hy⟩ := hrel
        have hyw := trans_ext hxw3 hy
        obtain ⟨l5, a5, a5', f5⟩ := bx2 (R3.toExt hy)
        by_cases hlt : k < rows.length
        · obtain ⟨b, o, A1, c1, rfl, hb, hcl1, hvx⟩ := (h1.toExt hyw).atV hlt
          have hpx := HP.out rows[k] (List.getElem_mem hlt)
          have Ht := Lib.hid (map_take_step (cols := cols) hlt)
          have hlk : ((rows.take k).map fun r => pickL r cols).length + 1 ≤ 2000000000 := by simp; omega
          have hSlt := Lib.hid hS.lt
          obtain ⟨x, hx1⟩ : ∃ x, rows[k] = x := ⟨_, rfl⟩
          rw [hx1] at hcl1 hvx hpx Ht
          obtain ⟨px, hpx2⟩ : ∃ p, pickL x cols = p := ⟨_, rfl⟩
          have HPX := Lib.hid hpx2
          rw [hpx2] at Ht
          have HPI := Lib.hid hpx
          clear hx1 hpx2 hpx
          go_wp2_with (first
            | (go_at_call 150; refine (pick_any hvx hc (h2.toExt hyw) HPI.out).mono ?_; rintro e w1 ⟨v1, F1, rfl, hx1, hS1, hF1⟩; rw [HPX.out] at hS1; obtain ⟨A2, c2, rfl, _, _⟩ := hS1.form; have hN2 := nodup_more HN.out hS1.nodup hSlt.out hF1; have hz1 := size_of_ext hx1)
            | (at_builtin; refine wpList_appN (E := sRow) (d := px) (G := F1) rfl _ _ _ rfl tIIr rfl rfl rfl (by simp) ⟨_, rfl, hS1⟩ rfl (by simp [Value.oneCell']) (hS.toExt hx1) hN2 hlk (by omega) ?_; intro v' w' F' hS' hC' hN' hF'))
          refine ⟨⟨k + 1, F', by go_num, by omega, by rw [Ht.out]; exact hS', Lib.hid hN', Lib.hid (fun b hb => ?_), hC'.isExt (trans_ext hy hx1) HF.out⟩, by simp [intOf]; omega⟩
          have hzw := size_of_ext hy
          rcases hF' b hb with h | h | h
          · exact HF.out b h
          · have := hF1 b h; omega
          · omega
        · rw [List.take_of_length_le (by omega)] at hS
          have HZ := Lib.hid (show projR (a, rows) cols = newR (cols.length : Int) (rows.map fun r => pickL r cols) by unfold projR; rw [if_pos ⟨HT.out, HT2.out⟩])
          obtain ⟨pr, hpr⟩ : ∃ p, (rows.map fun r => pickL r cols) = p := ⟨_, rfl⟩
          have hprl : pr.length ≤ 1000000000 := by rw [← hpr]; simpa using hx
          have Hprx : Hid (∀ x ∈ pr, x.length ≤ 1000000000) := Lib.hid (fun x hx => by
            rw [← hpr] at hx
            obtain ⟨r, _, rfl⟩ := List.mem_map.1 hx
            rw [pickL_length]; exact hc)
          rw [hpr] at hS HZ
          obtain ⟨nr, hnr⟩ : ∃ o, newR (cols.length : Int) pr = o := ⟨_, rfl⟩
          have HNR := Lib.hid hnr
          clear hpr hnr
          obtain ⟨A3, c3, rfl, hc3, _, rv3⟩ := hS.view (V := vSl 1 vI) (sSl_v sI_v)
          go_wp2_with (go_at_call 160; refine (NewRelation_any ⟨by omega, by omega⟩ hprl hc3 Hprx.out rv3).mono ?_; rw [HNR.out]; rintro e w5 ⟨v0, v1, F5, rfl, hx5, hS5, hN5, hF5⟩; obtain ⟨A6, c6, rfl, rfl, hS6⟩ := sRel_form hS5; obtain ⟨l6, a6, a6', f6⟩ := bx2 ((R3.toExt hy).toExt hx5))
          have hzz := size_of_ext (trans_ext hy hx5)
          have hzy := size_of_ext hy
          refine bodyPost_ret (v := .tuple #[.agg #[.int .i64 (nr.getD (0, [])).1, .slice A6 (nr.getD (0, [])).2.length c6], .bool nr.isSome]) (by simp [results, Try.results80, go_sem, *]) rfl ?_
          refine ⟨_, _, F5, by rw [HZ.out, HNR.out], (by refine Chg.isExt (F := []) ?_ (refl_ext _) (by simp); repeat (with_reducible (first | exact Chg.refl _ _ | exact Nat.le_refl _ | exact Chg.ofExt (by assumption) | refine Chg.trans0 ?_ (by assumption) | refine Chg.extS ?_ _ | refine Chg.alloc ?_ _ | refine Chg.drew ?_ | refine Chg.setCellE ?_ ?_ _ | refine le_addk ?_ _ | refine le_ext ?_ | refine le_alloc ?_ _ | refine le_setC ?_ _ _ | refine le_drew ?_ | assumption | (refine Nat.le_of_lt ?_; omega) | omega))), ?_, hN5, fun b hb => ?_⟩
          · rw [HZ.out, HNR.out]
            refine OD.chg (E := sRel) (G := [w.heap.size + 1]) hS5 (by repeat (with_reducible (first | exact Chg.refl _ _ | refine Chg.trans0 ?_ (by assumption) | refine Chg.extS ?_ _ | refine Chg.alloc ?_ _ | refine Chg.drew ?_ | refine Chg.setCell ?_ (.inl (by simp)) _))) ?_
            intro b hb h
            have := hF5 b hb
            rw [List.mem_singleton.1 h] at this
            omega
          · have := hF5 b hb
            have := size_of_ext hyw
            omega
set_option maxRecDepth 100000 in
set_option maxHeartbeats 8000000 in
theorem specProject_any {a : Int} {A A' : Option Addr} {c c' : Nat} {rows : List (List Int)} {cols : List Int} {w : World} (ha : -1000000000 ≤ a ∧ a ≤ 1000000000) (hx : rows.length ≤ 1000000000) (hxl : ∀ x ∈ rows, x.length ≤ 1000000000) (h1 : RII w A rows) (hc : cols.length ≤ 1000000000) (h2 : RI w A' cols) :
    Calls Try.prog 47 #[.agg #[.int .i64 a, .slice A rows.length c], .slice A' cols.length c'] w (RelOut (projR (a, rows) cols) w) := by
  obtain ⟨ha1, ha2⟩ := ha
  have Hxl := Lib.hid hxl
  obtain ⟨t, ht⟩ : ∃ t, rowsB a rows = t := ⟨_, rfl⟩
  have HT := Lib.hid ht
  clear hxl ht
  go_enter Try.func47, Try.ntmps47
  go_upto_region 1 with fail
  refine wp_name ?_
  intro W hW
  have xW : ∃ y, W = ext w y := by rw [hW.out]; exact (by refine Chg.isExt (F := []) ?_ (refl_ext _) (by simp); repeat (with_reducible (first | exact Chg.refl _ _ | exact Nat.le_refl _ | exact Chg.ofExt (by assumption) | refine Chg.trans0 ?_ (by assumption) | refine Chg.extS ?_ _ | refine Chg.alloc ?_ _ | refine Chg.drew ?_ | refine Chg.setCellE ?_ ?_ _ | refine le_addk ?_ _ | refine le_ext ?_ | refine le_alloc ?_ _ | refine le_setC ?_ _ _ | refine le_drew ?_ | assumption | (refine Nat.le_of_lt ?_; omega) | omega)))
  have PW : BoxAt W w.heap.size #[.int .i64 a, .slice A rows.length c] := by rw [hW.out]; exact (by repeat (with_reducible (first | assumption | exact BoxAt.new _ _ _ | apply BoxAt.set2 | refine BoxAt.set2' ?_ (by omega) | apply BoxAt.setP0 | apply BoxAt.setP1 | refine BoxAt.setO ?_ (by omega) | refine BoxAt.alloc ?_ _ | refine BoxAt.drew ?_ | refine BoxAt.toExt ?_ (by assumption))))
  have RW : BoxAt W (w.heap.size + 1) #[.int .i64 0, .slice none 0 0] := by
    rw [hW.out]
    simpa using BoxAt.new (w.alloc (.cells #[.int .i64 a, .slice A rows.length c] 39)) #[.int .i64 0, .slice none 0 0] 39
  clear hW
  go_wp2_with fail
  go_loopw [6] (fun i wr => ∃ k : Nat, i = .int .i64 k ∧ k ≤ cols.length ∧ Hid (((cols.drop k).all fun c => inB c 0 (a - 1)) = cols.all fun c => inB c 0 (a - 1)) ∧ ∃ y, wr = ext W y) (fun i _ => cols.length - (intOf i).toNat)
  case atStart => exact ⟨0, rfl, by omega, Lib.hid (by simp), refl_ext W⟩
  case round =>
    obtain ⟨k, rfl, hk, Hj, hy⟩ := hrel
    have hyw := trans_ext xW hy
    obtain ⟨l1, a1, a1', f1⟩ := bx2 (RW.toExt hy)
    obtain ⟨l2, a2, a2', f2⟩ := bx2 (PW.toExt hy)
    by_cases hlt : k < cols.length
    · obtain ⟨b, o, rfl, hb, hc1⟩ := (h2.toExt hyw).atI hlt
      have e := Hj.out
      rw [allR_step hlt] at e
      obtain ⟨n, hn⟩ : ∃ n, cols[k] = n := ⟨_, rfl⟩
      rw [hn] at e hc1
      obtain ⟨t3, ht3⟩ : ∃ t, inB n 0 (a - 1) = t := ⟨_, rfl⟩
      rw [ht3] at e
      have HT3 := Lib.hid ht3
      have He := Lib.hid e
      clear e ht3 hn
      cases t3
      · have HZ := Lib.hid (show projR (a, rows) cols = none by unfold projR fitsC; rw [show (cols.all fun c => inB c 0 (a - 1)) = false by rw [← He.out]; rfl]; simp)
        go_wp2_with fail
        refine wp_region_ext (by kernel_rfl) (by kernel_rfl) ?_
        repeat (go_big_quiet_step ((go_at_call 123; exact quietSb (l1In_any _ _ _ _) HT3.out)))
        refine wpQuiet_nil ?_
        rintro _ ⟨zz, rfl⟩
        go_wp2
        refine bodyPost_ret (v := .tuple #[.agg #[.int .i64 0, .slice none 0 0], .bool false]) (by simp [results, Try.results47, go_sem, *]) rfl (relOut_none HZ.out rfl (by refine Chg.isExt (F := []) ?_ (refl_ext _) (by simp); repeat (with_reducible (first | exact Chg.refl _ _ | exact Nat.le_refl _ | exact Chg.ofExt (by assumption) | refine Chg.trans0 ?_ (by assumption) | refine Chg.extS ?_ _ | refine Chg.alloc ?_ _ | refine Chg.drew ?_ | refine Chg.setCellE ?_ ?_ _ | refine le_addk ?_ _ | refine le_ext ?_ | refine le_alloc ?_ _ | refine le_setC ?_ _ _ | refine le_drew ?_ | assumption | (refine Nat.le_of_lt ?_; omega) | omega))))
      · go_wp2_with fail
        refine wp_region_ext (by kernel_rfl) (by kernel_rfl) ?_
        repeat (go_big_quiet_step ((go_at_call 123; exact quietSb (l1In_any _ _ _ _) HT3.out)))
        refine wpQuiet_nil ?_
        rintro _ ⟨zz, rfl⟩
        go_wp2
        exact ⟨⟨k + 1, by go_num, by omega, Lib.hid (by simpa using He.out), (by refine Chg.isExt (F := []) ?_ (refl_ext _) (by simp); repeat (with_reducible (first | exact Chg.refl _ _ | exact Nat.le_refl _ | exact Chg.ofExt (by assumption) | refine Chg.trans0 ?_ (by assumption) | refine Chg.extS ?_ _ | refine Chg.alloc ?_ _ | refine Chg.drew ?_ | refine Chg.setCellE ?_ ?_ _ | refine le_addk ?_ _ | refine le_ext ?_ | refine le_alloc ?_ _ | refine le_setC ?_ _ _ | refine le_drew ?_ | assumption | (refine Nat.le_of_lt ?_; omega) | omega)))⟩, by simp [intOf]; omega⟩
    · have HAL := Lib.hid (show (cols.all fun c => inB c 0 (a - 1)) = true by rw [← Hj.out, allR_end hlt])
      cases t with
      | false =>
        have HZ := Lib.hid (show projR (a, rows) cols = none by unfold projR; rw [HT.out]; simp)
        go_wp2_with (go_at_call 57; refine (specIsValidRelation_w hx Hxl.out (h1.toExt hyw)).mono ?_; rintro e w3 ⟨rfl, hx3⟩; rw [HT.out]; obtain ⟨l3, a3, a3', f3⟩ := bx2 (RW.toExt (trans_ext hy hx3)))
        refine bodyPost_ret (v := .tuple #[.agg #[.int .i64 0, .slice none 0 0], .bool false]) (by simp [results, Try.results47, go_sem, *]) rfl (relOut_none HZ.out rfl (by refine Chg.isExt (F := []) ?_ (refl_ext _) (by simp); repeat (with_reducible (first | exact Chg.refl _ _ | exact Nat.le_refl _ | exact Chg.ofExt (by assumption) | refine Chg.trans0 ?_ (by assumption) | refine Chg.extS ?_ _ | refine Chg.alloc ?_ _ | refine Chg.drew ?_ | refine Chg.setCellE ?_ ?_ _ | refine le_addk ?_ _ | refine le_ext ?_ | refine le_alloc ?_ _ | refine le_setC ?_ _ _ | refine le_drew ?_ | assumption | (refine Nat.le_of_lt ?_; omega) | omega))))
      | true =>
        by_cases h5 : cols.length ≤ 5
        · have HF2 := Lib.hid (show fitsC a cols = true by unfold fitsC; rw [HAL.out, decide_eq_true h5]; rfl)
          have HP := Lib.hid (proj_in HT.out HF2.out)
          have HV := Lib.hid (rowsB_iff.1 HT.out)
          have hx4 : rows.length ≤ 4000 := HV.out.2.2.1
          go_wp2_with (go_at_call 57; refine (specIsValidRelation_w hx Hxl.out (h1.toExt hyw)).mono ?_; rintro e w3 ⟨rfl, hx3⟩; rw [HT.out]; obtain ⟨l3, a3, a3', f3⟩ := bx2 (RW.toExt (trans_ext hy hx3)); obtain ⟨l4, a4, a4', f4⟩ := bx2 (PW.toExt (trans_ext hy hx3)))
          have R3 := RW.toExt (trans_ext hy hx3)
          have P3 := PW.toExt (trans_ext hy hx3)
          have hxw3 := trans_ext hyw hx3
          have hw3s := R3.1
          have hS0 := SV.empty (α := List Int) (te := 48) (size := 1) (E := sRow) w3
          clear l1 a1 a1' f1 l2 a2 a2' f2 PW RW
          go_loopw [7, 8] (fun v i wr => ∃ (k : Nat) (F : List Nat), i = .int .i64 k ∧ k ≤ rows.length ∧ SV 48 1 sRow wr v ((rows.take k).map fun r => pickL r cols) F ∧ Hid F.Nodup ∧ Hid (∀ b ∈ F, w3.heap.size ≤ b) ∧ (∃ y, wr = ext w3 y)) (fun _ i _ => rows.length - (intOf i).toNat)
          case atStart => exact ⟨0, _, rfl, by omega, hS0, Lib.hid (by simp), Lib.hid (by simp), alloc_ext _ _⟩
          case round =>
            obtain ⟨k, F, rfl, hk, hS, HN, HF, hy⟩ := hrel
            have hyw := trans_ext hxw3 hy
            obtain ⟨l5, a5, a5', f5⟩ := bx2 (R3.toExt hy)
            obtain ⟨l9, a9, a9', f9⟩ := bx2 (P3.toExt hy)
            by_cases hlt : k < rows.length
            · obtain ⟨b, o, A1, c1, rfl, hb, hcl1, hvx⟩ := (h1.toExt hyw).atV hlt
              have hpx := HP.out rows[k] (List.getElem_mem hlt)
              have Ht := Lib.hid (map_take_step (cols := cols) hlt)
              have hlk : ((rows.take k).map fun r => pickL r cols).length + 1 ≤ 2000000000 := by simp; omega
              have hSlt := Lib.hid hS.lt
              obtain ⟨x, hx1⟩ : ∃ x, rows[k] = x := ⟨_, rfl⟩
              rw [hx1] at hcl1 hvx hpx Ht
              obtain ⟨px, hpx2⟩ : ∃ p, pickL x cols = p := ⟨_, rfl⟩
              have HPX := Lib.hid hpx2
              rw [hpx2] at Ht
              have HPI := Lib.hid hpx
              clear hx1 hpx2 hpx
              go_wp2_with (first
                | (go_at_call 119; refine (l5Cols_any hvx hc (h2.toExt hyw) HPI.out).mono ?_; rintro e w1 ⟨v1, F1, rfl, hx1, hS1, hF1⟩; rw [HPX.out] at hS1; obtain ⟨A2, c2, rfl, _, _⟩ := hS1.form; have hN2 := nodup_more HN.out hS1.nodup hSlt.out hF1; have hz1 := size_of_ext hx1)
                | (at_builtin; refine wpList_appN (E := sRow) (d := px) (G := F1) rfl _ _ _ rfl tIIr rfl rfl rfl (by simp) ⟨_, rfl, hS1⟩ rfl (by simp [Value.oneCell']) (hS.toExt hx1) hN2 hlk (by omega) ?_; intro v' w' F' hS' hC' hN' hF'))
              refine ⟨⟨k + 1, F', by go_num, by omega, by rw [Ht.out]; exact hS', Lib.hid hN', Lib.hid (fun b hb => ?_), hC'.isExt (trans_ext hy hx1) HF.out⟩, by simp [intOf]; omega⟩
              have hzw := size_of_ext hy
              rcases hF' b hb with h | h | h
              · exact HF.out b h
              · have := hF1 b h; omega
              · omega
            · rw [List.take_of_length_le (by omega)] at hS
              have HZ := Lib.hid (show projR (a, rows) cols = newR (cols.length : Int) (rows.map fun r => pickL r cols) by unfold projR; rw [if_pos ⟨HT.out, HF2.out⟩])
              obtain ⟨pr, hpr⟩ : ∃ p, (rows.map fun r => pickL r cols) = p := ⟨_, rfl⟩
              have hprl : pr.length ≤ 1000000000 := by rw [← hpr]; simpa using hx
              have Hprx : Hid (∀ x ∈ pr, x.length ≤ 1000000000) := Lib.hid (fun x hx => by
                rw [← hpr] at hx
                obtain ⟨r, _, rfl⟩ := List.mem_map.1 hx
                rw [pickL_length]; exact hc)
              rw [hpr] at hS HZ
              obtain ⟨nr, hnr⟩ : ∃ o, newR (cols.length : Int) pr = o := ⟨_, rfl⟩
              have HNR := Lib.hid hnr
              clear hpr hnr
              obtain ⟨A3, c3, rfl, hc3, _, rv3⟩ := hS.view (V := vSl 1 vI) (sSl_v sI_v)
              go_wp2_with (go_at_call 102; refine (specNewRelation_any ⟨by omega, by omega⟩ hprl hc3 Hprx.out rv3).mono ?_; rw [HNR.out]; rintro e w5 ⟨v0, v1, F5, rfl, hx5, hS5, hN5, hF5⟩; obtain ⟨A6, c6, rfl, rfl, hS6⟩ := sRel_form hS5; obtain ⟨l6, a6, a6', f6⟩ := bx2 ((R3.toExt hy).toExt hx5))
              have hzz := size_of_ext (trans_ext hy hx5)
              have hzy := size_of_ext hy
              have hz5 := size_of_ext hx5
              refine bodyPost_ret (v := .tuple #[.agg #[.int .i64 (nr.getD (0, [])).1, .slice A6 (nr.getD (0, [])).2.length c6], .bool nr.isSome]) (by simp [results, Try.results47, go_sem, *]) rfl ?_
              refine ⟨_, _, F5, by rw [HZ.out, HNR.out], (by refine Chg.isExt (F := []) ?_ (refl_ext _) (by simp); repeat (with_reducible (first | exact Chg.refl _ _ | exact Nat.le_refl _ | exact Chg.ofExt (by assumption) | refine Chg.trans0 ?_ (by assumption) | refine Chg.extS ?_ _ | refine Chg.alloc ?_ _ | refine Chg.drew ?_ | refine Chg.setCellE ?_ ?_ _ | refine le_addk ?_ _ | refine le_ext ?_ | refine le_alloc ?_ _ | refine le_setC ?_ _ _ | refine le_drew ?_ | assumption | (refine Nat.le_of_lt ?_; omega) | omega))), ?_, hN5, fun b hb => ?_⟩
              · rw [HZ.out, HNR.out]
                refine OD.chg (E := sRel) (G := [w.heap.size + 1]) hS5 (by repeat (with_reducible (first | exact Chg.refl _ _ | refine Chg.trans0 ?_ (by assumption) | refine Chg.extS ?_ _ | refine Chg.alloc ?_ _ | refine Chg.drew ?_ | refine Chg.setCell ?_ (.inl (by simp)) _))) ?_
                intro b hb h
                have := hF5 b hb
                rw [List.mem_singleton.1 h] at this
                omega
              · have := hF5 b hb
                have := size_of_ext hyw
                omega
        · have HZ := Lib.hid (show projR (a, rows) cols = none by unfold projR fitsC; rw [decide_eq_false h5]; simp)
          go_wp2_with (go_at_call 57; refine (specIsValidRelation_w hx Hxl.out (h1.toExt hyw)).mono ?_; rintro e w3 ⟨rfl, hx3⟩; rw [HT.out]; obtain ⟨l3, a3, a3', f3⟩ := bx2 (RW.toExt (trans_ext hy hx3)); obtain ⟨l4, a4, a4', f4⟩ := bx2 (PW.toExt (trans_ext hy hx3)))
          refine bodyPost_ret (v := .tuple #[.agg #[.int .i64 0, .slice none 0 0], .bool false]) (by simp [results, Try.results47, go_sem, *]) rfl (relOut_none HZ.out rfl (by refine Chg.isExt (F := []) ?_ (refl_ext _) (by simp); repeat (with_reducible (first | exact Chg.refl _ _ | exact Nat.le_refl _ | exact Chg.ofExt (by assumption) | refine Chg.trans0 ?_ (by assumption) | refine Chg.extS ?_ _ | refine Chg.alloc ?_ _ | refine Chg.drew ?_ | refine Chg.setCellE ?_ ?_ _ | refine le_addk ?_ _ | refine le_ext ?_ | refine le_alloc ?_ _ | refine le_setC ?_ _ _ | refine le_drew ?_ | assumption | (refine Nat.le_of_lt ?_; omega) | omega))))
end Go.Proofs.Ytfigcfajkilhiaa

/- Two rows joined that agree on common variables: the program's way. -/
namespace Go.Proofs.Ytfigcfajkilhiaa
open Go.RowKit

def okG (va r vb s : List Int) (v : Int) : Bool := !(decide (v ∈ va) && decide (v ∈ vb)) || decide (valAt va r v = valAt vb s v)
def gval (va r vb s : List Int) (v : Int) : Int := if v ∈ va then valAt va r v else valAt vb s v
def glueO (un va r vb s : List Int) : Option (List Int) := if un.all (okG va r vb s) = true then some (glueR un va r vb s) else none
theorem okG_agree {un va r vb s : List Int} (h : ∀ v, v ∈ un ↔ v ∈ va ∨ v ∈ vb) : un.all (okG va r vb s) = agreeB va r vb s := by
  rw [Bool.eq_iff_iff, List.all_eq_true, agreeB_iff]
  unfold okG
  simp only [Bool.or_eq_true, Bool.not_eq_true', Bool.and_eq_false_iff, decide_eq_false_iff_not, decide_eq_true_eq]
  constructor
  · intro k v h1 h2
    rcases k v ((h v).2 (.inl h1)) with (k | k) | k
    · exact absurd h1 k
    · exact absurd h2 k
    · exact k
  · intro k v hv
    by_cases h1 : v ∈ va
    · by_cases h2 : v ∈ vb
      · exact .inr (k v h1 h2)
      · exact .inl (.inr h2)
    · exact .inl (.inl h1)
theorem iof_none {v : Int} : ∀ {k : Nat} {va : List Int}, v ∉ va → iof k v va = -1
  | _, [], _ => rfl
  | k, x :: va, h => by
    rw [List.mem_cons, not_or] at h
    rw [iof, if_neg (fun e => h.1 e.symm), iof_none h.2]
theorem iof_at {v : Int} {va r : List Int} (h : v ∈ va) : ∃ p : Nat, p < va.length ∧ iof 0 v va = (p : Int) ∧ valAt va r v = r.getD p 0 := by
  obtain ⟨i, h1, h2⟩ := iof_get (k := 0) h
  rw [Nat.zero_add] at h1
  exact ⟨i, (List.getElem?_eq_some_iff.1 h2).1, h1, by unfold valAt; rw [h1, Int.toNat_natCast]⟩
def GluP (o : Option (List Int)) (w : World) (e : Ending) (w' : World) : Prop := ∃ v F, e = .returned (.tuple #[v, .bool o.isSome]) ∧ (∃ y, w' = ext w y) ∧ SV 3 1 sI w' v (o.getD []) F ∧ ∀ b ∈ F, w.heap.size ≤ b
theorem gl_step {un va r vb s : List Int} {k : Nat} (h : k < un.length) : glueR (un.take (k + 1)) va r vb s = glueR (un.take k) va r vb s ++ [gval va r vb s un[k]] := by
  unfold glueR
  rw [List.take_succ_eq_append_getElem h, List.map_append]; rfl
theorem all_step {p : Int → Bool} {un : List Int} {k : Nat} (h : k < un.length) (h1 : (un.take k).all p = true) (h2 : p un[k] = true) : (un.take (k + 1)).all p = true := by
  rw [List.take_succ_eq_append_getElem h, List.all_append, h1]
  simpa using h2
theorem all_fail {p : Int → Bool} {un : List Int} {k : Nat} (h : k < un.length) (h2 : p un[k] = false) : ¬ un.all p = true := by
  intro h1
  rw [List.all_eq_true] at h1
  rw [h1 _ (List.getElem_mem h)] at h2
  cases h2
set_option maxRecDepth 100000 in
set_option maxHeartbeats 8000000 in
theorem glue_any {A B C D E : Option Addr} {a b c d e : Nat} {un va r vb s : List Int} {w : World} (hn : un.length ≤ 1000000) (hu : RI w A un) (hva : va.length ≤ 1000000) (h1 : RI w B va) (hr : r.length = va.length) (h2 : RI w C r) (hvb : vb.length ≤ 1000000) (h3 : RI w D vb) (hs : s.length = vb.length) (h4 : RI w E s) (hun : ∀ v ∈ un, v ∈ va ∨ v ∈ vb) :
    Calls Try.prog 116 #[.slice A un.length a, .slice B va.length b, .slice C r.length c, .slice D vb.length d, .slice E s.length e] w (GluP (glueO un va r vb s) w) := by
  have Hun := Lib.hid hun
  have hr1 : r.length ≤ va.length := by omega
  have hr2 : va.length ≤ r.length := by omega
  have hs1 : s.length ≤ vb.length := by omega
  have hs2 : vb.length ≤ s.length := by omega
  have hS0 := SV.empty (α := Int) (te := 3) (size := 1) (E := sI) w
  clear hr hs hun
  go_enter Try.func116, Try.ntmps116
  go_wp2
  go_loopw [12, 20] (fun v i wr => ∃ (k : Nat) (F : List Nat), i = .int .i64 k ∧ k ≤ un.length ∧ SV 3 1 sI wr v (glueR (un.take k) va r vb s) F ∧ (∀ b ∈ F, w.heap.size ≤ b) ∧ (∃ y, wr = ext w y) ∧ Hid ((un.take k).all (okG va r vb s) = true)) (fun _ i _ => un.length - (intOf i).toNat)
  case atStart => exact ⟨0, _, rfl, by omega, by simpa [glueR] using hS0, by simp, alloc_ext _ _, Lib.hid (by simp)⟩
  case round =>
    obtain ⟨k, F, rfl, hk, hS, hF, hy, Hok⟩ := hrel
    have HF := Lib.hid hF
    clear hF
    by_cases hlt : k < un.length
    · obtain ⟨bu, ou, rfl, hbu, hcu⟩ := (hu.toExt hy).atI hlt
      have hmem := Hun.out _ (List.getElem_mem hlt)
      have Ht := Lib.hid (gl_step (va := va) (r := r) (vb := vb) (s := s) hlt)
      have HOK := Lib.hid (fun h => all_step hlt Hok.out h)
      have HFA := Lib.hid (fun h => all_fail (p := okG va r vb s) hlt h)
      have hlk : (glueR (un.take k) va r vb s).length + 1 ≤ 2000000000 := by simp [glueR]; omega
      obtain ⟨v, hv⟩ : ∃ v, un[k] = v := ⟨_, rfl⟩
      rw [hv] at hcu hmem Ht HOK HFA
      obtain ⟨i, hi⟩ : ∃ i, iof 0 v va = i := ⟨_, rfl⟩
      obtain ⟨j, hj⟩ : ∃ j, iof 0 v vb = j := ⟨_, rfl⟩
      have HI := Lib.hid hi
      have HJ := Lib.hid hj
      go_upto_region 7 with (first
        | (go_at_call 149; with_reducible refine (indexOf_any (xs := va) (by omega) (h1.toExt ?_)).mono ?_; (focus (exact (by refine Chg.isExt (F := []) ?_ (refl_ext _) (by simp); repeat (with_reducible (first | exact Chg.refl _ _ | exact Nat.le_refl _ | exact Chg.ofExt (by assumption) | refine Chg.trans0 ?_ (by assumption) | refine Chg.extS ?_ _ | refine Chg.alloc ?_ _ | refine Chg.drew ?_ | refine Chg.setCellE ?_ ?_ _ | refine le_addk ?_ _ | refine le_ext ?_ | refine le_alloc ?_ _ | refine le_setC ?_ _ _ | refine le_drew ?_ | assumption | (refine Nat.le_of_lt ?_; omega) | omega))))); rintro e w1 ⟨rfl, hx1⟩; rw [HI.out])
        | (go_at_call 149; with_reducible refine (indexOf_any (xs := vb) (by omega) (h3.toExt ?_)).mono ?_; (focus (exact (by refine Chg.isExt (F := []) ?_ (refl_ext _) (by simp); repeat (with_reducible (first | exact Chg.refl _ _ | exact Nat.le_refl _ | exact Chg.ofExt (by assumption) | refine Chg.trans0 ?_ (by assumption) | refine Chg.extS ?_ _ | refine Chg.alloc ?_ _ | refine Chg.drew ?_ | refine Chg.setCellE ?_ ?_ _ | refine le_addk ?_ _ | refine le_ext ?_ | refine le_alloc ?_ _ | refine le_setC ?_ _ _ | refine le_drew ?_ | assumption | (refine Nat.le_of_lt ?_; omega) | omega))))); rintro e w2 ⟨rfl, hx2⟩; rw [HJ.out]))
      have hy2 : ∃ y, w2 = ext w y := (by refine Chg.isExt (F := []) ?_ (refl_ext _) (by simp); repeat (with_reducible (first | exact Chg.refl _ _ | exact Nat.le_refl _ | exact Chg.ofExt (by assumption) | refine Chg.trans0 ?_ (by assumption) | refine Chg.extS ?_ _ | refine Chg.alloc ?_ _ | refine Chg.drew ?_ | refine Chg.setCellE ?_ ?_ _ | refine le_addk ?_ _ | refine le_ext ?_ | refine le_alloc ?_ _ | refine le_setC ?_ _ _ | refine le_drew ?_ | assumption | (refine Nat.le_of_lt ?_; omega) | omega)))
      have hS2 := (hS.toExt hx1).toExt hx2
      by_cases ma : v ∈ va
      · obtain ⟨p, hp1, hp2, hp3⟩ := iof_at (r := r) ma
        rw [hi] at hp2
        obtain ⟨br, or, rfl, hbr, hcr⟩ := (h2.toExt hy2).atI' (n := p) (by omega)
        have hp4 : (p : Int) < (r.length : Int) := by omega
        by_cases mb : v ∈ vb
        · obtain ⟨q, hq1, hq2, hq3⟩ := iof_at (r := s) mb
          rw [hj] at hq2
          obtain ⟨bs', os', rfl, hbs, hcs⟩ := (h4.toExt hy2).atI' (n := q) (by omega)
          have hq4 : (q : Int) < (s.length : Int) := by omega
          have hgv : gval va r vb s v = r.getD p 0 := by unfold gval; rw [if_pos ma, hp3]
          have hok : okG va r vb s v = decide (r.getD p 0 = s.getD q 0) := by unfold okG; rw [decide_eq_true ma, decide_eq_true mb, hp3, hq3]; rfl
          obtain ⟨x, hx⟩ : ∃ x, r.getD p 0 = x := ⟨_, rfl⟩
          obtain ⟨z, hz⟩ : ∃ z, s.getD q 0 = z := ⟨_, rfl⟩
          rw [hx] at hcr hgv hok
          rw [hz] at hcs hok
          rw [hgv] at Ht
          rw [hok] at HOK HFA
          subst hp2 hq2
          clear hi hj hv hmem hp3 hq3 hx hz hgv hok ma mb
          by_cases hxz : x = z
          · have hne : (x != z) = false := by simpa using hxz
            have HOK := Lib.hid (HOK.out (by simpa using hxz))
            clear hxz
            refine wp_region_ext (by kernel_rfl) (by kernel_rfl) ?_
            repeat (go_big_quiet_step (fail))
            refine wpQuiet_nil ?_
            rintro _ ⟨zz, rfl⟩
            have hy1 : ∃ y, ext w2 zz = ext w y := trans_ext hy2 ⟨zz, rfl⟩
            have hS1 := hS2.toExt (⟨zz, rfl⟩ : ∃ y, ext w2 zz = ext w2 y)
            go_wp2_with (at_builtin; refine wpList_app1 (E := sI) (d := x) rfl _ _ _ rfl tI rfl rfl rfl (by simp) (fun _ => ⟨rfl, rfl⟩) rfl (by simp [Value.oneCell']) hS1 hlk (by omega) ?_; intro v' w' F' hS' hC' hF')
            exact ⟨⟨k + 1, F', by go_num, by omega, by rw [Ht.out]; exact hS', newer HF.out (size_of_ext hy1) hF', hC'.isExt hy1 HF.out, Lib.hid HOK.out⟩, by simp [intOf]; omega⟩
          · have hne : (x != z) = true := by simpa using hxz
            have HZ := Lib.hid (show glueO un va r vb s = none by unfold glueO; rw [if_neg (HFA.out (by simpa using hxz))])
            clear hxz
            refine wp_region_ext (by kernel_rfl) (by kernel_rfl) ?_
            repeat (go_big_quiet_step (fail))
            refine wpQuiet_nil ?_
            rintro _ ⟨zz, rfl⟩
            have hy1 : ∃ y, ext w2 zz = ext w y := trans_ext hy2 ⟨zz, rfl⟩
            have hS1 := hS2.toExt (⟨zz, rfl⟩ : ∃ y, ext w2 zz = ext w2 y)
            go_wp2
            go_ret2
            exact ⟨_, [], by rw [HZ.out]; rfl, hy1, by rw [HZ.out]; exact SV.nil, by simp⟩
        · have hgv : gval va r vb s v = r.getD p 0 := by unfold gval; rw [if_pos ma, hp3]
          have hok : okG va r vb s v = true := by unfold okG; rw [decide_eq_false mb]; simp
          have HOK := Lib.hid (HOK.out hok)
          obtain ⟨x, hx⟩ : ∃ x, r.getD p 0 = x := ⟨_, rfl⟩
          rw [hx] at hcr hgv
          rw [hgv] at Ht
          rw [iof_none mb] at hj
          subst hp2 hj
          clear hi hv hmem hp3 hx hgv hok ma mb
          refine wp_region_ext (by kernel_rfl) (by kernel_rfl) ?_
          repeat (go_big_quiet_step (fail))
          refine wpQuiet_nil ?_
          rintro _ ⟨zz, rfl⟩
          have hy1 : ∃ y, ext w2 zz = ext w y := trans_ext hy2 ⟨zz, rfl⟩
          have hS1 := hS2.toExt (⟨zz, rfl⟩ : ∃ y, ext w2 zz = ext w2 y)
          go_wp2_with (at_builtin; refine wpList_app1 (E := sI) (d := x) rfl _ _ _ rfl tI rfl rfl rfl (by simp) (fun _ => ⟨rfl, rfl⟩) rfl (by simp [Value.oneCell']) hS1 hlk (by omega) ?_; intro v' w' F' hS' hC' hF')
          exact ⟨⟨k + 1, F', by go_num, by omega, by rw [Ht.out]; exact hS', newer HF.out (size_of_ext hy1) hF', hC'.isExt hy1 HF.out, Lib.hid HOK.out⟩, by simp [intOf]; omega⟩
      · have mb : v ∈ vb := by
          rcases hmem with h | h
          · exact absurd h ma
          · exact h
        obtain ⟨q, hq1, hq2, hq3⟩ := iof_at (r := s) mb
        rw [hj] at hq2
        obtain ⟨bs', os', rfl, hbs, hcs⟩ := (h4.toExt hy2).atI' (n := q) (by omega)
        have hq4 : (q : Int) < (s.length : Int) := by omega
        have hgv : gval va r vb s v = s.getD q 0 := by unfold gval; rw [if_neg ma, hq3]
        have hok : okG va r vb s v = true := by unfold okG; rw [decide_eq_false ma]; simp
        have HOK := Lib.hid (HOK.out hok)
        obtain ⟨x, hx⟩ : ∃ x, s.getD q 0 = x := ⟨_, rfl⟩
        rw [hx] at hcs hgv
        rw [hgv] at Ht
        rw [iof_none ma] at hi
        subst hq2 hi
        clear hj hv hmem hq3 hx hgv hok ma mb
        refine wp_region_ext (by kernel_rfl) (by kernel_rfl) ?_
        repeat (go_big_quiet_step (fail))
        refine wpQuiet_nil ?_
        rintro _ ⟨zz, rfl⟩
        have hy1 : ∃ y, ext w2 zz = ext w y := trans_ext hy2 ⟨zz, rfl⟩
        have hS1 := hS2.toExt (⟨zz, rfl⟩ : ∃ y, ext w2 zz = ext w2 y)
        go_wp2_with (at_builtin; refine wpList_app1 (E := sI) (d := x) rfl _ _ _ rfl tI rfl rfl rfl (by simp) (fun _ => ⟨rfl, rfl⟩) rfl (by simp [Value.oneCell']) hS1 hlk (by omega) ?_; intro v' w' F' hS' hC' hF')
        exact ⟨⟨k + 1, F', by go_num, by omega, by rw [Ht.out]; exact hS', newer HF.out (size_of_ext hy1) hF', hC'.isExt hy1 HF.out, Lib.hid HOK.out⟩, by simp [intOf]; omega⟩
    · have HZ := Lib.hid (show glueO un va r vb s = some (glueR un va r vb s) by
        unfold glueO
        rw [if_pos (by have := Hok.out; rwa [List.take_of_length_le (by omega)] at this)])
      rw [show un.take k = un from List.take_of_length_le (by omega)] at hS
      go_wp2
      go_ret2
      exact ⟨_, F, by rw [HZ.out]; rfl, hy, by rw [HZ.out]; exact hS, HF.out⟩
end Go.Proofs.Ytfigcfajkilhiaa
