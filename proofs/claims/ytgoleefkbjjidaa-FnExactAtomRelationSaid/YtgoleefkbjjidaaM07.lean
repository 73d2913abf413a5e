/- Contracts of functions that the statements reach, joined from several texts: ValidQ, Near, BindPl, QFor, QOkPl, NewRel2, IsBind, Proj, Glue, SemiI. -/
import Derived.Test.YtgoleefkbjjidaaM01
import Derived.Test.YtgoleefkbjjidaaM02
import Derived.Test.YtgoleefkbjjidaaM03
import Derived.Test.YtgoleefkbjjidaaM06
import Derived.Test.YtgoleefkbjjidaaM05
import Derived.Test.YtgoleefkbjjidaaM04
import Derived.Deep.RegionLaw
import Derived.Deep.DrawnRows
import Derived.Deep.DeepCutAuto
/- Whether a query is valid; the program's way and the reference's. -/
namespace Go.Proofs.Ytgoleefkbjjidaa
open Go.RowKit

def atomB (n : Int) (x : At) : Bool := nameB x.1 && inB x.2.length 1 5 && x.2.all fun v => inB v 0 (n - 1)
def seen (ats : List At) : List Int := ats.flatMap (·.2)
def mkU (n : Nat) (s : List Int) : List Bool := (List.range n).map fun (v : Nat) => decide ((v : Int) ∈ s)
def coverB (n : Int) (ats : List At) : Bool := (mkU n.toNat (seen ats)).all id
def vqB (d : Qd) : Bool := inB d.1 1 5 && inB d.2.1.length 1 4 && setB d.1 [] d.2.2 && d.2.1.all (atomB d.1) && coverB d.1 d.2.1
@[simp] theorem mkU_length (n : Nat) (s : List Int) : (mkU n s).length = n := by simp [mkU]
theorem mkU_nil (n : Nat) : mkU n [] = List.replicate n false := by
  unfold mkU
  apply List.ext_getElem
  · simp
  · intro i h1 h2
    simp
theorem mkU_set {n : Nat} {s : List Int} {v : Int} (h0 : 0 ≤ v) : (mkU n s).set v.toNat true = mkU n (s ++ [v]) := by
  apply List.ext_getElem
  · simp
  · intro i h1 h2
    rw [List.getElem_set]
    unfold mkU
    simp only [List.getElem_map, List.getElem_range, List.mem_append, List.mem_singleton]
    split
    · rename_i h
      subst h
      simp
      right; omega
    · rename_i h
      have : ¬ ((i : Int) = v) := by rintro rfl; exact h (by simp)
      simp [this]
theorem seen_take {ats : List At} {k : Nat} (h : k < ats.length) : seen (ats.take (k + 1)) = seen (ats.take k) ++ ats[k].2 := by
  unfold seen
  rw [List.take_succ_eq_append_getElem h, List.flatMap_append]
  simp
theorem allA_step {α : Type} {p : α → Bool} {xs : List α} {k : Nat} (h : k < xs.length) : (xs.drop k).all p = (p xs[k] && (xs.drop (k + 1)).all p) := by
  rw [List.drop_eq_getElem_cons h, List.all_cons]
theorem allA_end {α : Type} {p : α → Bool} {xs : List α} {k : Nat} (h : ¬ k < xs.length) : (xs.drop k).all p = true := by
  rw [List.drop_eq_nil_of_le (by omega)]; rfl
theorem tB : SlT Try.prog 142 4 1 1 (.bool false) := ⟨Try.underlying142, by kernel_rfl, rfl, by omega⟩
set_option maxRecDepth 4000 in
set_option maxHeartbeats 4000000 in
theorem IsValidQuery_w {A B : Option Addr} {c e1 : Nat} {d : Qd} {w : World} (hb : WQ d) (h : vQ w [.int .i64 d.1, .slice A d.2.1.length c, .slice B d.2.2.length e1] d) :
    Calls Try.prog 102 #[.agg #[.int .i64 d.1, .slice A d.2.1.length c, .slice B d.2.2.length e1]] w fun e w' => e = .returned (.bool (vqB d)) ∧ ∃ y, w' = ext w y := by
  obtain ⟨r1, r2, hcap⟩ := vQ_get h
  obtain ⟨hz, b1, b2⟩ := hb
  obtain ⟨z, ats, out⟩ := d
  dsimp only at r1 r2 hcap hz b1 b2 ⊢
  have r1 := (vAts_get r1).2
  have m2 : out.length ≤ 1000000000 := by omega
  have b4 := b1.1
  have Hx := Lib.hid b1.2
  clear h b1
  obtain ⟨t1, ht1⟩ : ∃ t, inB z 1 5 = t := ⟨_, rfl⟩
  obtain ⟨t2, ht2⟩ : ∃ t, inB ats.length 1 4 = t := ⟨_, rfl⟩
  obtain ⟨t3, ht3⟩ : ∃ t, setB z [] out = t := ⟨_, rfl⟩
  have N1 := Lib.hid ht1
  have N2 := Lib.hid ht2
  have N3 := Lib.hid ht3
  have HE := Lib.hid (show vqB (z, ats, out) = (t1 && t2 && t3 && ats.all (atomB z) && coverB z ats) by unfold vqB; rw [ht1, ht2, ht3])
  clear ht1 ht2 ht3
  cases t1 with
  | false =>
    go_enter Try.func102, Try.ntmps102
    go_wp2_with (go_at_call 119; refine (within_any _ _ _ _).mono ?_; rintro e w' ⟨rfl, rfl⟩; (first | rw [N1.out] | rw [N2.out]))
    go_ret
    exact ⟨by rw [HE.out]; rfl, (by refine Chg.isExt (F := []) ?_ (refl_ext _) (by simp); repeat (with_reducible (first | exact Chg.refl _ _ | exact Nat.le_refl _ | exact Chg.ofExt (by assumption) | refine Chg.trans0 ?_ (by assumption) | refine Chg.extS ?_ _ | refine Chg.alloc ?_ _ | refine Chg.drew ?_ | refine Chg.setCellE ?_ ?_ _ | refine le_addk ?_ _ | refine le_ext ?_ | refine le_alloc ?_ _ | refine le_setC ?_ _ _ | refine le_drew ?_ | assumption | (refine Nat.le_of_lt ?_; omega) | omega)))⟩
  | true =>
    have hn := inB_t N1.out
    obtain ⟨n, rfl⟩ : ∃ n : Nat, z = n := ⟨z.toNat, by omega⟩
    have hn1 : n ≤ 5 := by omega
    have hn2 : 1 ≤ n := by omega
    clear hn hz
    cases t2 with
    | false =>
      go_enter Try.func102, Try.ntmps102
      go_wp2_with (go_at_call 119; refine (within_any _ _ _ _).mono ?_; rintro e w' ⟨rfl, rfl⟩; (first | rw [N1.out] | rw [N2.out]))
      go_ret
      exact ⟨by rw [HE.out]; rfl, (by refine Chg.isExt (F := []) ?_ (refl_ext _) (by simp); repeat (with_reducible (first | exact Chg.refl _ _ | exact Nat.le_refl _ | exact Chg.ofExt (by assumption) | refine Chg.trans0 ?_ (by assumption) | refine Chg.extS ?_ _ | refine Chg.alloc ?_ _ | refine Chg.drew ?_ | refine Chg.setCellE ?_ ?_ _ | refine le_addk ?_ _ | refine le_ext ?_ | refine le_alloc ?_ _ | refine le_setC ?_ _ _ | refine le_drew ?_ | assumption | (refine Nat.le_of_lt ?_; omega) | omega)))⟩
    | true =>
      cases t3 with
      | false =>
        go_enter Try.func102, Try.ntmps102
        go_wp2_with (first
          | (go_at_call 119; refine (within_any _ _ _ _).mono ?_; rintro e w' ⟨rfl, rfl⟩; (first | rw [N1.out] | rw [N2.out]))
          | (go_at_call 141; refine (isSetOf_any m2 hcap (r2.toExt (by refine Chg.isExt (F := []) ?_ (refl_ext _) (by simp); repeat (with_reducible (first | exact Chg.refl _ _ | exact Nat.le_refl _ | exact Chg.ofExt (by assumption) | refine Chg.trans0 ?_ (by assumption) | refine Chg.extS ?_ _ | refine Chg.alloc ?_ _ | refine Chg.drew ?_ | refine Chg.setCellE ?_ ?_ _ | refine le_addk ?_ _ | refine le_ext ?_ | refine le_alloc ?_ _ | refine le_setC ?_ _ _ | refine le_drew ?_ | assumption | (refine Nat.le_of_lt ?_; omega) | omega)))) (by omega) (by omega)).mono ?_; rintro e w1 ⟨rfl, y1, rfl⟩; rw [N3.out]))
        go_ret
        exact ⟨by rw [HE.out]; rfl, (by refine Chg.isExt (F := []) ?_ (refl_ext _) (by simp); repeat (with_reducible (first | exact Chg.refl _ _ | exact Nat.le_refl _ | exact Chg.ofExt (by assumption) | refine Chg.trans0 ?_ (by assumption) | refine Chg.extS ?_ _ | refine Chg.alloc ?_ _ | refine Chg.drew ?_ | refine Chg.setCellE ?_ ?_ _ | refine le_addk ?_ _ | refine le_ext ?_ | refine le_alloc ?_ _ | refine le_setC ?_ _ _ | refine le_drew ?_ | assumption | (refine Nat.le_of_lt ?_; omega) | omega)))⟩
      | true =>
        have HF := Lib.hid (show ats.all (atomB n) = false → vqB ((n : Int), ats, out) = false by rw [HE.out]; intro h; rw [h]; rfl)
        have HT := Lib.hid (show ats.all (atomB n) = true → vqB ((n : Int), ats, out) = (mkU n (seen ats)).all id by rw [HE.out]; intro h; rw [h]; rfl)
        have HU0 := Lib.hid (mkU_nil n)
        go_enter Try.func102, Try.ntmps102
        go_wp2_with (first
          | (go_at_call 119; refine (within_any _ _ _ _).mono ?_; rintro e w' ⟨rfl, rfl⟩; (first | rw [N1.out] | rw [N2.out]))
          | (go_at_call 141; refine (isSetOf_any m2 hcap (r2.toExt (by refine Chg.isExt (F := []) ?_ (refl_ext _) (by simp); repeat (with_reducible (first | exact Chg.refl _ _ | exact Nat.le_refl _ | exact Chg.ofExt (by assumption) | refine Chg.trans0 ?_ (by assumption) | refine Chg.extS ?_ _ | refine Chg.alloc ?_ _ | refine Chg.drew ?_ | refine Chg.setCellE ?_ ?_ _ | refine le_addk ?_ _ | refine le_ext ?_ | refine le_alloc ?_ _ | refine le_setC ?_ _ _ | refine le_drew ?_ | assumption | (refine Nat.le_of_lt ?_; omega) | omega)))) (by omega) (by omega)).mono ?_; rintro e w1 ⟨rfl, hx1⟩; rw [N3.out]; have P1 := (BoxAt.new w #[.int .i64 (n : Int), .slice A ats.length c, .slice B out.length e1] 66).toExt hx1; obtain ⟨l1, a1, a1', a1'', f1⟩ := box3 P1)
          | (at_make; refine wpList_makeS (E := sB) (d := false) (n := n) _ rfl _ _ _ rfl tB rfl rfl (fun _ => ⟨rfl, rfl⟩) (by omega) (by omega) ?_; intro w2 hS hx2 hg2; have P2 := P1.toExt hx2; obtain ⟨l2, a2, a2', a2'', f2⟩ := box3 P2))
        have hg1 := size_of_ext hx1
        simp only [World.size_alloc] at hg1
        rw [← HU0.out] at hS
        go_loopw [35] (fun i wr => ∃ k : Nat, i = .int .i64 k ∧ k ≤ ats.length ∧ SV 4 1 sB wr (.slice (some ⟨w1.heap.size, 0, none⟩) n n) (mkU n (seen (ats.take k))) [w1.heap.size] ∧ (∃ y, wr = ext w y) ∧ (ats.drop k).all (atomB n) = ats.all (atomB n)) (fun i _ => ats.length - (intOf i).toNat)
        case atStart => exact ⟨0, rfl, by omega, by simpa [seen] using hS, (by refine Chg.isExt (F := []) ?_ (refl_ext _) (by simp); repeat (with_reducible (first | exact Chg.refl _ _ | exact Nat.le_refl _ | exact Chg.ofExt (by assumption) | refine Chg.trans0 ?_ (by assumption) | refine Chg.extS ?_ _ | refine Chg.alloc ?_ _ | refine Chg.drew ?_ | refine Chg.setCellE ?_ ?_ _ | refine le_addk ?_ _ | refine le_ext ?_ | refine le_alloc ?_ _ | refine le_setC ?_ _ _ | refine le_drew ?_ | assumption | (refine Nat.le_of_lt ?_; omega) | omega))), by simp⟩
        case round =>
          obtain ⟨k, rfl, hk, hS, hy, hj⟩ := hrel
          have Hj := Lib.hid hj
          clear hj
          by_cases hlt : k < ats.length
          · obtain ⟨b, o, A', c', rfl, hb0, hc0, hd0, hv0⟩ := r1.atA hlt
            have hb : b < wr.heap.size := Nat.lt_of_lt_of_le hb0 (size_of_ext hy)
            have hc : wr.cell? ⟨b, o + k * 2, none⟩ = some (.string ats[k].1) := by obtain ⟨y, e⟩ := hy; rw [e, cell_ext hb0]; exact hc0
            have hd : wr.cell? ⟨b, o + k * 2 + 1, none⟩ = some (.slice A' ats[k].2.length c') := by obtain ⟨y, e⟩ := hy; rw [e, cell_ext hb0]; exact hd0
            clear hc0 hd0
            have hle := Hx.out ats[k] (List.getElem_mem hlt)
            obtain ⟨x1, x2⟩ := hle
            have x3 : ats[k].1.size ≤ 1000000000 := by omega
            have e := Hj.out
            rw [allA_step hlt] at e
            have HS := Lib.hid hS
            have Hst := Lib.hid (seen_take hlt)
            obtain ⟨s, hs⟩ : ∃ s, ats[k].1 = s := ⟨_, rfl⟩
            obtain ⟨xs, hxs⟩ : ∃ xs, ats[k].2 = xs := ⟨_, rfl⟩
            have ea : atomB n ats[k] = (nameB s && inB xs.length 1 5 && xs.all fun v => inB v 0 ((n : Int) - 1)) := by unfold atomB; rw [hs, hxs]
            rw [ea] at e
            have Hst : Hid (seen (ats.take (k + 1)) = seen (ats.take k) ++ xs) := Lib.hid (by rw [Hst.out, hxs])
            rw [hs] at hc x3
            rw [hxs] at hd hv0 x2
            obtain ⟨t4, ht4⟩ : ∃ t, nameB s = t := ⟨_, rfl⟩
            obtain ⟨t5, ht5⟩ : ∃ t, inB xs.length 1 5 = t := ⟨_, rfl⟩
            rw [ht4, ht5] at e
            have N4 := Lib.hid ht4
            have N5 := Lib.hid ht5
            have He := Lib.hid e
            clear e ea hs hxs ht4 ht5 hS x1
            cases t4 with
            | false =>
              go_wp2_with (go_at_call 131; refine (IsValidName_any x3).mono ?_; rintro e w' ⟨rfl, rfl⟩; rw [N4.out])
              go_ret
              exact ⟨by rw [HF.out He.out.symm]; rfl, (by refine Chg.isExt (F := []) ?_ (refl_ext _) (by simp); repeat (with_reducible (first | exact Chg.refl _ _ | exact Nat.le_refl _ | exact Chg.ofExt (by assumption) | refine Chg.trans0 ?_ (by assumption) | refine Chg.extS ?_ _ | refine Chg.alloc ?_ _ | refine Chg.drew ?_ | refine Chg.setCellE ?_ ?_ _ | refine le_addk ?_ _ | refine le_ext ?_ | refine le_alloc ?_ _ | refine le_setC ?_ _ _ | refine le_drew ?_ | assumption | (refine Nat.le_of_lt ?_; omega) | omega)))⟩
            | true =>
              cases t5 with
              | false =>
                go_wp2_with (first
                  | (go_at_call 131; refine (IsValidName_any x3).mono ?_; rintro e w' ⟨rfl, rfl⟩; rw [N4.out])
                  | (go_at_call 119; refine (within_any _ _ _ _).mono ?_; rintro e w' ⟨rfl, rfl⟩; rw [N5.out]))
                go_ret
                exact ⟨by rw [HF.out He.out.symm]; rfl, (by refine Chg.isExt (F := []) ?_ (refl_ext _) (by simp); repeat (with_reducible (first | exact Chg.refl _ _ | exact Nat.le_refl _ | exact Chg.ofExt (by assumption) | refine Chg.trans0 ?_ (by assumption) | refine Chg.extS ?_ _ | refine Chg.alloc ?_ _ | refine Chg.drew ?_ | refine Chg.setCellE ?_ ?_ _ | refine le_addk ?_ _ | refine le_ext ?_ | refine le_alloc ?_ _ | refine le_setC ?_ _ _ | refine le_drew ?_ | assumption | (refine Nat.le_of_lt ?_; omega) | omega)))⟩
              | true =>
                go_wp2_with (first
                  | (go_at_call 131; refine (IsValidName_any x3).mono ?_; rintro e w' ⟨rfl, rfl⟩; rw [N4.out])
                  | (go_at_call 119; refine (within_any _ _ _ _).mono ?_; rintro e w' ⟨rfl, rfl⟩; rw [N5.out]))
                have hyw : ∃ y, wr.alloc (.cells #[.string s, .slice A' xs.length c'] 78) = ext wr y := alloc_ext _ _
                go_loopw [53] (fun i vs => ∃ j : Nat, i = .int .i64 j ∧ j ≤ xs.length ∧ SV 4 1 sB vs (.slice (some ⟨w1.heap.size, 0, none⟩) n n) (mkU n (seen (ats.take k) ++ xs.take j)) [w1.heap.size] ∧ (∃ y, vs = ext w y) ∧ (xs.drop j).all (fun v => inB v 0 ((n : Int) - 1)) = xs.all fun v => inB v 0 ((n : Int) - 1)) (fun i _ => xs.length - (intOf i).toNat)
                case atStart => exact ⟨0, rfl, by omega, by simpa using HS.out.toExt hyw, (by refine Chg.isExt (F := []) ?_ (refl_ext _) (by simp); repeat (with_reducible (first | exact Chg.refl _ _ | exact Nat.le_refl _ | exact Chg.ofExt (by assumption) | refine Chg.trans0 ?_ (by assumption) | refine Chg.extS ?_ _ | refine Chg.alloc ?_ _ | refine Chg.drew ?_ | refine Chg.setCellE ?_ ?_ _ | refine le_addk ?_ _ | refine le_ext ?_ | refine le_alloc ?_ _ | refine le_setC ?_ _ _ | refine le_drew ?_ | assumption | (refine Nat.le_of_lt ?_; omega) | omega))), by simp⟩
                case round =>
                  obtain ⟨j, rfl, hj1, hS2, hy2, hj⟩ := hrel
                  have Hj2 := Lib.hid hj
                  have HS2 := Lib.hid hS2
                  clear hj
                  by_cases hlt2 : j < xs.length
                  · obtain ⟨b3, o3, rfl, hb3, hc3⟩ := (hv0.toExt hy2).atI hlt2
                    have e := Hj2.out
                    rw [allA_step hlt2] at e
                    obtain ⟨v, hvv⟩ : ∃ v, xs[j] = v := ⟨_, rfl⟩
                    have Hv := Lib.hid hvv
                    rw [hvv] at e hc3
                    obtain ⟨t6, ht6⟩ : ∃ t, inB v 0 ((n : Int) - 1) = t := ⟨_, rfl⟩
                    rw [ht6] at e
                    have N6 := Lib.hid ht6
                    have He2 := Lib.hid e
                    clear e hvv ht6
                    cases t6 with
                    | false =>
                      have HB := Lib.hid (show ats.all (atomB n) = false by rw [← He.out, ← He2.out]; rfl)
                      clear hS2
                      go_wp2_with (go_at_call 119; refine (within_any _ _ _ _).mono ?_; rintro e w' ⟨rfl, rfl⟩; rw [N6.out])
                      go_ret
                      exact ⟨by rw [HF.out HB.out]; rfl, hy2⟩
                    | true =>
                      have hvb := inB_t N6.out
                      obtain ⟨v0, v1⟩ := hvb
                      have v2 : v < (n : Int) := by omega
                      obtain ⟨⟨u, hu⟩, hf, hg⟩ := hS2.cell (by simp) (j := v.toNat) (by omega)
                      have Hset := Lib.hid (show (mkU n (seen (ats.take k) ++ xs.take j)).set v.toNat true = mkU n (seen (ats.take k) ++ xs.take (j + 1)) by
                        rw [mkU_set v0, List.take_succ_eq_append_getElem hlt2, Hv.out, List.append_assoc])
                      clear hS2
                      go_wp2_with (go_at_call 119; refine (within_any _ _ _ _).mono ?_; rintro e w' ⟨rfl, rfl⟩; rw [N6.out])
                      obtain ⟨h3, h4⟩ := HS2.out.set1 (by simp) (k := v.toNat) (by omega) (u := .bool true) (d := true) (fun _ => ⟨rfl, rfl⟩)
                      rw [Hset.out] at h3
                      exact ⟨⟨j + 1, by go_num, by omega, h3, h4.isExt hy2 (by simpa using by omega), by simpa using He2.out⟩, by simp [intOf]; omega⟩
                  · have e := Hj2.out
                    rw [allA_end hlt2] at e
                    have e2 := He.out
                    rw [← e] at e2
                    have He2 := Lib.hid e2
                    rw [show xs.take j = xs from List.take_of_length_le (by omega), ← Hst.out] at hS2
                    clear e e2
                    go_wp2
                    exact ⟨⟨k + 1, by go_num, by omega, hS2, hy2, by simpa using He2.out⟩, by simp [intOf]; omega⟩
          · have e := Hj.out
            rw [allA_end hlt] at e
            have HE2 := Lib.hid (HT.out e.symm)
            rw [List.take_of_length_le (by omega)] at hS
            have hV := hS.toView sB_v
            clear e
            go_wp2
            clear hlt Hj
            go_loopw [69] (fun i ws => ∃ k : Nat, i = .int .i64 k ∧ k ≤ n ∧ ((mkU n (seen ats)).drop k).all id = (mkU n (seen ats)).all id ∧ ∃ y, ws = ext wr y) (fun i _ => n - (intOf i).toNat)
            case atStart => exact ⟨0, rfl, by omega, by simp, refl_ext _⟩
            case round =>
              obtain ⟨k, rfl, hk, hj, hy3⟩ := hrel
              have Hj := Lib.hid hj
              clear hj
              by_cases hlt : k < n
              · have hlt2 : k < (mkU n (seen ats)).length := by simpa using hlt
                obtain ⟨b3, o3, hA3, hb3, hc3⟩ := (hV.toExt hy3).atB hlt2
                injection hA3 with hA3
                injection hA3 with e1 e2
                subst e1 e2
                have e := Hj.out
                rw [allA_step hlt2] at e
                obtain ⟨t, ht⟩ : ∃ t, (mkU n (seen ats))[k] = t := ⟨_, rfl⟩
                rw [ht] at e hc3
                rw [Nat.zero_add] at hc3
                have He := Lib.hid e
                clear e ht
                cases t with
                | true =>
                  go_wp2
                  exact ⟨⟨k + 1, by go_num, by omega, by simpa using He.out, hy3⟩, by simp [intOf]; omega⟩
                | false =>
                  go_wp2
                  go_ret
                  exact ⟨by rw [HE2.out, ← He.out]; rfl, trans_ext hy hy3⟩
              · have e := Hj.out
                rw [allA_end (by simpa using hlt)] at e
                have He := Lib.hid e
                clear e
                go_wp2
                go_ret
                exact ⟨by rw [HE2.out, ← He.out]; rfl, trans_ext hy hy3⟩
theorem IsValidQuery_any {A B : Option Addr} {c e1 : Nat} {d : Qd} {w : World} (hb : BQ d) (h : vQ w [.int .i64 d.1, .slice A d.2.1.length c, .slice B d.2.2.length e1] d) :
    Calls Try.prog 102 #[.agg #[.int .i64 d.1, .slice A d.2.1.length c, .slice B d.2.2.length e1]] w fun e w' => e = .returned (.bool (vqB d)) ∧ ∃ y, w' = ext w y := IsValidQuery_w hb.w h
theorem quietEi' {P : Program} {f : FuncId} {args : Array Value} {w y : World} {m n : Int}
    (h : Calls P f args (ext w y) fun e w' => e = .returned (.int .i64 m) ∧ ∃ z, w' = ext (ext w y) z) (hc : m = n) : Calls P f args (ext w y) fun e w' => e = .returned (.int .i64 n) ∧ ∃ z, w' = ext w z := by
  subst hc; exact quietE h
theorem l7Find_n {A : Option Addr} {c m : Nat} {xs : List Int} {n : Int} {w : World} (hm : xs.length = m) (hx : m ≤ 1000000000) (h1 : RI w A xs) :
    Calls Try.prog 75 #[.slice A m c, .int .i64 n] w fun e w' => e = .returned (.int .i64 (iof 0 n xs)) ∧ ∃ y, w' = ext w y := by
  subst hm
  exact l7Find_any hx h1
set_option maxRecDepth 100000 in
set_option maxHeartbeats 8000000 in
theorem specIsValidQuery_w {A B : Option Addr} {c e1 : Nat} {d : Qd} {w : World} (hb : WQ d) (h : vQ w [.int .i64 d.1, .slice A d.2.1.length c, .slice B d.2.2.length e1] d) :
    Calls Try.prog 100 #[.agg #[.int .i64 d.1, .slice A d.2.1.length c, .slice B d.2.2.length e1]] w fun e w' => e = .returned (.bool (vqB d)) ∧ ∃ y, w' = ext w y := by
  obtain ⟨r1, r2, hcap⟩ := vQ_get h
  obtain ⟨hz, b1, b2⟩ := hb
  obtain ⟨z, ats, out⟩ := d
  dsimp only at r1 r2 hcap hz b1 b2 ⊢
  have r1 := (vAts_get r1).2
  have m2 : out.length ≤ 1000000000 := by omega
  have b4 := b1.1
  have Hx := Lib.hid b1.2
  clear h b1
  obtain ⟨t1, ht1⟩ : ∃ t, inB z 1 5 = t := ⟨_, rfl⟩
  obtain ⟨t2, ht2⟩ : ∃ t, inB ats.length 1 4 = t := ⟨_, rfl⟩
  have N1 := Lib.hid ht1
  have N2 := Lib.hid ht2
  have HE := Lib.hid (show vqB (z, ats, out) = (t1 && t2 && setB z [] out && ats.all (atomB z) && coverB z ats) by unfold vqB; rw [ht1, ht2])
  clear ht1 ht2
  cases t1 with
  | false =>
    go_enter Try.func100, Try.ntmps100
    go_wp2_with (go_at_call 117; refine (l1In_any _ _ _ _).mono ?_; rintro e w' ⟨rfl, rfl⟩; (first | rw [N1.out] | rw [N2.out]))
    go_ret
    exact ⟨by rw [HE.out]; rfl, (by refine Chg.isExt (F := []) ?_ (refl_ext _) (by simp); repeat (with_reducible (first | exact Chg.refl _ _ | exact Nat.le_refl _ | exact Chg.ofExt (by assumption) | refine Chg.trans0 ?_ (by assumption) | refine Chg.extS ?_ _ | refine Chg.alloc ?_ _ | refine Chg.drew ?_ | refine Chg.setCellE ?_ ?_ _ | refine le_addk ?_ _ | refine le_ext ?_ | refine le_alloc ?_ _ | refine le_setC ?_ _ _ | refine le_drew ?_ | assumption | (refine Nat.le_of_lt ?_; omega) | omega)))⟩
  | true =>
    have hn := inB_t N1.out
    obtain ⟨n, rfl⟩ : ∃ n : Nat, z = n := ⟨z.toNat, by omega⟩
    have hn1 : n ≤ 5 := by omega
    have hn2 : 1 ≤ n := by omega
    clear hn hz
    cases t2 with
    | false =>
      go_enter Try.func100, Try.ntmps100
      go_wp2_with (go_at_call 117; refine (l1In_any _ _ _ _).mono ?_; rintro e w' ⟨rfl, rfl⟩; (first | rw [N1.out] | rw [N2.out]))
      go_ret
      exact ⟨by rw [HE.out]; rfl, (by refine Chg.isExt (F := []) ?_ (refl_ext _) (by simp); repeat (with_reducible (first | exact Chg.refl _ _ | exact Nat.le_refl _ | exact Chg.ofExt (by assumption) | refine Chg.trans0 ?_ (by assumption) | refine Chg.extS ?_ _ | refine Chg.alloc ?_ _ | refine Chg.drew ?_ | refine Chg.setCellE ?_ ?_ _ | refine le_addk ?_ _ | refine le_ext ?_ | refine le_alloc ?_ _ | refine le_setC ?_ _ _ | refine le_drew ?_ | assumption | (refine Nat.le_of_lt ?_; omega) | omega)))⟩
    | true =>
      by_cases hbig : n < out.length
      · have HF := Lib.hid (show vqB ((n : Int), ats, out) = false by
          rw [HE.out]
          cases hs : setB n [] out with
          | false => rfl
          | true => have := setB_len hs (by omega); omega)
        go_enter Try.func100, Try.ntmps100
        go_wp2_with (go_at_call 117; refine (l1In_any _ _ _ _).mono ?_; rintro e w' ⟨rfl, rfl⟩; (first | rw [N1.out] | rw [N2.out]))
        go_ret
        exact ⟨by rw [HF.out]; rfl, (by refine Chg.isExt (F := []) ?_ (refl_ext _) (by simp); repeat (with_reducible (first | exact Chg.refl _ _ | exact Nat.le_refl _ | exact Chg.ofExt (by assumption) | refine Chg.trans0 ?_ (by assumption) | refine Chg.extS ?_ _ | refine Chg.alloc ?_ _ | refine Chg.drew ?_ | refine Chg.setCellE ?_ ?_ _ | refine le_addk ?_ _ | refine le_ext ?_ | refine le_alloc ?_ _ | refine le_setC ?_ _ _ | refine le_drew ?_ | assumption | (refine Nat.le_of_lt ?_; omega) | omega)))⟩
      · have HF1 := Lib.hid (show ats.all (atomB n) = false → vqB ((n : Int), ats, out) = false by rw [HE.out]; intro h; rw [h, Bool.and_false]; rfl)
        have HF2 := Lib.hid (show (mkU n (seen ats)).all id = false → vqB ((n : Int), ats, out) = false by rw [HE.out]; intro h; rw [show coverB n ats = (mkU n (seen ats)).all id from rfl, h, Bool.and_false])
        have HT := Lib.hid (show ats.all (atomB n) = true → (mkU n (seen ats)).all id = true → vqB ((n : Int), ats, out) = setB n [] out by rw [HE.out]; intro h h2; rw [h, show coverB n ats = (mkU n (seen ats)).all id from rfl, h2]; simp)
        have hw1 : IntKind.i64.wrap ((n : Int) - 1) = (n : Int) - 1 := by rw [IntKind.wrap_i64]; omega
        go_enter Try.func100, Try.ntmps100
        go_upto_region 1 with fail
        refine wp_name ?_
        intro W hW
        have xW : ∃ y, W = ext w y := by rw [hW.out]; exact (by refine Chg.isExt (F := []) ?_ (refl_ext _) (by simp); repeat (with_reducible (first | exact Chg.refl _ _ | exact Nat.le_refl _ | exact Chg.ofExt (by assumption) | refine Chg.trans0 ?_ (by assumption) | refine Chg.extS ?_ _ | refine Chg.alloc ?_ _ | refine Chg.drew ?_ | refine Chg.setCellE ?_ ?_ _ | refine le_addk ?_ _ | refine le_ext ?_ | refine le_alloc ?_ _ | refine le_setC ?_ _ _ | refine le_drew ?_ | assumption | (refine Nat.le_of_lt ?_; omega) | omega)))
        have BW0 : BoxAt W (w.heap.size) #[.int .i64 (n : Int), .slice A ats.length c, .slice B out.length e1] := by rw [hW.out]; refine ⟨?_, fun j => ?_, fun j => ?_⟩ <;> go_simp
        obtain ⟨lW0, bW0, fW0⟩ := BW0
        have cW0_0 : W.cell? ⟨w.heap.size, 0, none⟩ = some (.int .i64 (n : Int)) := bW0 0
        have cW0_1 : W.cell? ⟨w.heap.size, 1, none⟩ = some (.slice A ats.length c) := bW0 1
        have cW0_2 : W.cell? ⟨w.heap.size, 2, none⟩ = some (.slice B out.length e1) := bW0 2
        clear hW
        go_wp2_with (go_at_call 117; refine (l1In_any _ _ _ _).mono ?_; rintro e w' ⟨rfl, rfl⟩; (first | rw [N1.out] | rw [N2.out]))
        have r1 := r1.toExt xW
        have r2 := r2.toExt xW
        go_loopw [3] (fun i wr => ∃ k : Nat, i = .int .i64 k ∧ k ≤ ats.length ∧ (∃ y, wr = ext W y) ∧ (ats.drop k).all (atomB n) = ats.all (atomB n)) (fun i _ => ats.length - (intOf i).toNat)
        case atStart => exact ⟨0, rfl, by omega, refl_ext _, by simp⟩
        case round =>
          obtain ⟨k, rfl, hk, hy, hj⟩ := hrel
          have Hj := Lib.hid hj
          clear hj
          obtain ⟨l1, a1, a1', a1'', f1⟩ := box3 (BoxAt.toExt (cs := #[_, _, _]) ⟨lW0, bW0, fW0⟩ hy)
          by_cases hlt : k < ats.length
          · obtain ⟨b, o, A', c', rfl, hb0, hc0, hd0, hv0⟩ := r1.atA hlt
            have hb : b < wr.heap.size := Nat.lt_of_lt_of_le hb0 (size_of_ext hy)
            have hc : wr.cell? ⟨b, o + k * 2, none⟩ = some (.string ats[k].1) := by obtain ⟨y, e⟩ := hy; rw [e, cell_ext hb0]; exact hc0
            have hd : wr.cell? ⟨b, o + k * 2 + 1, none⟩ = some (.slice A' ats[k].2.length c') := by obtain ⟨y, e⟩ := hy; rw [e, cell_ext hb0]; exact hd0
            have hle := Hx.out ats[k] (List.getElem_mem hlt)
            obtain ⟨x1, x2⟩ := hle
            have x3 : ats[k].1.size ≤ 1000000000 := by omega
            have e := Hj.out
            rw [allA_step hlt] at e
            obtain ⟨s, hs⟩ : ∃ s, ats[k].1 = s := ⟨_, rfl⟩
            obtain ⟨xs, hxs⟩ : ∃ xs, ats[k].2 = xs := ⟨_, rfl⟩
            have ea : atomB n ats[k] = (nameB s && inB xs.length 1 5 && xs.all fun v => inB v 0 ((n : Int) - 1)) := by unfold atomB; rw [hs, hxs]
            rw [ea] at e
            rw [hs] at hc x3
            rw [hxs] at hd hd0 hv0 x2
            obtain ⟨t4, ht4⟩ : ∃ t, nameB s = t := ⟨_, rfl⟩
            obtain ⟨t5, ht5⟩ : ∃ t, inB xs.length 1 5 = t := ⟨_, rfl⟩
            rw [ht4, ht5] at e
            have N4 := Lib.hid ht4
            have N5 := Lib.hid ht5
            have He := Lib.hid e
            have Hd0 := Lib.hid hd0
            clear e ea hs hxs ht4 ht5 x1 hc0 hd0
            cases t4 with
            | false =>
              go_wp2_with (go_at_call 127; refine (specIsValidName_any x3).mono ?_; rintro e w' ⟨rfl, rfl⟩; rw [N4.out])
              go_ret
              exact ⟨by rw [HF1.out He.out.symm]; rfl, trans_ext xW hy⟩
            | true =>
              cases t5 with
              | false =>
                go_wp2_with (first
                  | (go_at_call 127; refine (specIsValidName_any x3).mono ?_; rintro e w' ⟨rfl, rfl⟩; rw [N4.out])
                  | (go_at_call 117; refine (l1In_any _ _ _ _).mono ?_; rintro e w' ⟨rfl, rfl⟩; rw [N5.out]))
                go_ret
                exact ⟨by rw [HF1.out He.out.symm]; rfl, trans_ext xW hy⟩
              | true =>
                go_wp2_with (first
                  | (go_at_call 127; refine (specIsValidName_any x3).mono ?_; rintro e w' ⟨rfl, rfl⟩; rw [N4.out])
                  | (go_at_call 117; refine (l1In_any _ _ _ _).mono ?_; rintro e w' ⟨rfl, rfl⟩; rw [N5.out]))
                clear l1 a1 a1' a1'' f1 hb hc hd
                go_loopw [4] (fun i vs => ∃ j : Nat, i = .int .i64 j ∧ j ≤ xs.length ∧ (∃ y, vs = ext W y) ∧ (xs.drop j).all (fun v => inB v 0 ((n : Int) - 1)) = xs.all fun v => inB v 0 ((n : Int) - 1)) (fun i _ => xs.length - (intOf i).toNat)
                case atStart => exact ⟨0, rfl, by omega, hy, by simp⟩
                case round =>
                  obtain ⟨j, rfl, hj1, hy2, hj⟩ := hrel
                  have Hj2 := Lib.hid hj
                  clear hj
                  obtain ⟨l2, a2, a2', a2'', f2⟩ := box3 (BoxAt.toExt (cs := #[_, _, _]) ⟨lW0, bW0, fW0⟩ hy2)
                  have hb : b < wr.heap.size := Nat.lt_of_lt_of_le hb0 (size_of_ext hy2)
                  have hd : wr.cell? ⟨b, o + k * 2 + 1, none⟩ = some (.slice A' xs.length c') := by obtain ⟨y, e⟩ := hy2; rw [e, cell_ext hb0]; exact Hd0.out
                  by_cases hlt2 : j < xs.length
                  · obtain ⟨b3, o3, rfl, hb3, hc3⟩ := (hv0.toExt hy2).atI hlt2
                    have e := Hj2.out
                    rw [allA_step hlt2] at e
                    obtain ⟨v, hvv⟩ : ∃ v, xs[j] = v := ⟨_, rfl⟩
                    rw [hvv] at e hc3
                    obtain ⟨t6, ht6⟩ : ∃ t, inB v 0 ((n : Int) - 1) = t := ⟨_, rfl⟩
                    rw [ht6] at e
                    have N6 := Lib.hid ht6
                    have He2 := Lib.hid e
                    clear e hvv ht6
                    cases t6 with
                    | false =>
                      have HB := Lib.hid (show ats.all (atomB n) = false by rw [← He.out, ← He2.out]; rfl)
                      go_wp2
                      refine wp_region_ext (by kernel_rfl) (by kernel_rfl) ?_
                      repeat (go_big_quiet_step ((go_at_call 117; (try rw [hw1]); exact quietSb (l1In_any _ _ _ _) N6.out)))
                      refine wpQuiet_nil ?_
                      rintro _ ⟨zz, rfl⟩
                      go_wp2
                      go_ret
                      exact ⟨by rw [HF1.out HB.out]; rfl, (by refine Chg.isExt (F := []) ?_ (refl_ext _) (by simp); repeat (with_reducible (first | exact Chg.refl _ _ | exact Nat.le_refl _ | exact Chg.ofExt (by assumption) | refine Chg.trans0 ?_ (by assumption) | refine Chg.extS ?_ _ | refine Chg.alloc ?_ _ | refine Chg.drew ?_ | refine Chg.setCellE ?_ ?_ _ | refine le_addk ?_ _ | refine le_ext ?_ | refine le_alloc ?_ _ | refine le_setC ?_ _ _ | refine le_drew ?_ | assumption | (refine Nat.le_of_lt ?_; omega) | omega)))⟩
                    | true =>
                      go_wp2
                      refine wp_region_ext (by kernel_rfl) (by kernel_rfl) ?_
                      repeat (go_big_quiet_step ((go_at_call 117; (try rw [hw1]); exact quietSb (l1In_any _ _ _ _) N6.out)))
                      refine wpQuiet_nil ?_
                      rintro _ ⟨zz, rfl⟩
                      go_wp2
                      exact ⟨⟨j + 1, by go_num, by omega, (by refine Chg.isExt (F := []) ?_ (refl_ext _) (by simp); repeat (with_reducible (first | exact Chg.refl _ _ | exact Nat.le_refl _ | exact Chg.ofExt (by assumption) | refine Chg.trans0 ?_ (by assumption) | refine Chg.extS ?_ _ | refine Chg.alloc ?_ _ | refine Chg.drew ?_ | refine Chg.setCellE ?_ ?_ _ | refine le_addk ?_ _ | refine le_ext ?_ | refine le_alloc ?_ _ | refine le_setC ?_ _ _ | refine le_drew ?_ | assumption | (refine Nat.le_of_lt ?_; omega) | omega))), by simpa using He2.out⟩, by simp [intOf]; omega⟩
                  · have e := Hj2.out
                    rw [allA_end hlt2] at e
                    have e2 := He.out
                    rw [← e] at e2
                    have He2 := Lib.hid e2
                    clear e e2
                    go_wp2
                    exact ⟨⟨k + 1, by go_num, by omega, hy2, by simpa using He2.out⟩, by simp [intOf]; omega⟩
          · have e := Hj.out
            rw [allA_end hlt] at e
            have HA := Lib.hid e.symm
            clear e
            go_wp2
            clear hlt Hj l1 a1 a1' a1'' f1
            go_loopw [5] (fun i wr => ∃ v : Nat, i = .int .i64 v ∧ v ≤ n ∧ (∃ y, wr = ext W y) ∧ ((mkU n (seen ats)).drop v).all id = (mkU n (seen ats)).all id) (fun i _ => n - (intOf i).toNat)
            case atStart => exact ⟨0, rfl, by omega, hy, by simp⟩
            case round =>
              obtain ⟨v, rfl, hv, hy, hj⟩ := hrel
              have Hj := Lib.hid hj
              clear hj
              obtain ⟨l1, a1, a1', a1'', f1⟩ := box3 (BoxAt.toExt (cs := #[_, _, _]) ⟨lW0, bW0, fW0⟩ hy)
              by_cases hlt : v < n
              · have hlt2 : v < (mkU n (seen ats)).length := by simpa using hlt
                have e := Hj.out
                rw [allA_step hlt2] at e
                have em : (mkU n (seen ats))[v] = decide ((v : Int) ∈ seen ats) := by simp [mkU]
                rw [em] at e
                have He := Lib.hid e
                clear e em
                go_wp2
                clear l1 a1 a1' a1'' f1
                go_loopw [6, 7] (fun s i vs => ∃ k : Nat, i = .int .i64 k ∧ s = .bool (decide ((v : Int) ∈ seen (ats.take k))) ∧ k ≤ ats.length ∧ (∃ y, vs = ext W y)) (fun _ i _ => ats.length - (intOf i).toNat)
                case atStart => exact ⟨0, rfl, by simp [seen], by omega, hy⟩
                case round =>
                  obtain ⟨k, rfl, rfl, hk, hy2⟩ := hrel
                  obtain ⟨l2, a2, a2', a2'', f2⟩ := box3 (BoxAt.toExt (cs := #[_, _, _]) ⟨lW0, bW0, fW0⟩ hy2)
                  by_cases hlt3 : k < ats.length
                  · obtain ⟨b, o, A', c', rfl, hb0, hc0, hd0, hv0⟩ := r1.atA hlt3
                    have hb : b < wr.heap.size := Nat.lt_of_lt_of_le hb0 (size_of_ext hy2)
                    have hc : wr.cell? ⟨b, o + k * 2, none⟩ = some (.string ats[k].1) := by obtain ⟨y, e⟩ := hy2; rw [e, cell_ext hb0]; exact hc0
                    have hd : wr.cell? ⟨b, o + k * 2 + 1, none⟩ = some (.slice A' ats[k].2.length c') := by obtain ⟨y, e⟩ := hy2; rw [e, cell_ext hb0]; exact hd0
                    have x2 : ats[k].2.length ≤ 1000000000 := by have := (Hx.out ats[k] (List.getElem_mem hlt3)).2; omega
                    have hst : decide ((v : Int) ∈ seen (ats.take (k + 1))) = (decide ((v : Int) ∈ seen (ats.take k)) || decide ((v : Int) ∈ ats[k].2)) := by
                      rw [seen_take hlt3, Bool.eq_iff_iff]; simp
                    obtain ⟨t7, ht7⟩ : ∃ t, decide ((v : Int) ∈ seen (ats.take k)) = t := ⟨_, rfl⟩
                    obtain ⟨t8, ht8⟩ : ∃ t, decide ((v : Int) ∈ ats[k].2) = t := ⟨_, rfl⟩
                    rw [ht7, ht8] at hst
                    rw [ht7]
                    have Hst := Lib.hid hst
                    have H8 := Lib.hid ht8
                    clear hst ht7 ht8 hc0 hd0
                    cases t7 with
                    | true =>
                      go_wp2
                      exact ⟨⟨k + 1, by go_num, by rw [Hst.out]; rfl, by omega, hy2⟩, by simp [intOf]; omega⟩
                    | false =>
                      go_wp2_with (go_at_call 140; refine (specContains_any x2 (hv0.toExt hy2)).mono ?_; rintro e w1 ⟨rfl, hx1⟩; rw [H8.out])
                      exact ⟨⟨k + 1, by go_num, by rw [Hst.out, Bool.false_or], by omega, (by refine Chg.isExt (F := []) ?_ (refl_ext _) (by simp); repeat (with_reducible (first | exact Chg.refl _ _ | exact Nat.le_refl _ | exact Chg.ofExt (by assumption) | refine Chg.trans0 ?_ (by assumption) | refine Chg.extS ?_ _ | refine Chg.alloc ?_ _ | refine Chg.drew ?_ | refine Chg.setCellE ?_ ?_ _ | refine le_addk ?_ _ | refine le_ext ?_ | refine le_alloc ?_ _ | refine le_setC ?_ _ _ | refine le_drew ?_ | assumption | (refine Nat.le_of_lt ?_; omega) | omega)))⟩, by simp [intOf]; omega⟩
                  · have ek : ats.take k = ats := List.take_of_length_le (by omega)
                    rw [ek]
                    have He2 := He.out
                    obtain ⟨t9, ht9⟩ : ∃ t, decide ((v : Int) ∈ seen ats) = t := ⟨_, rfl⟩
                    rw [ht9] at He2 ⊢
                    have HR := Lib.hid He2
                    clear ek He2 ht9
                    cases t9 with
                    | true =>
                      go_wp2
                      exact ⟨⟨v + 1, by go_num, by omega, hy2, by simpa using HR.out⟩, by simp [intOf]; omega⟩
                    | false =>
                      go_wp2
                      go_ret
                      exact ⟨by rw [HF2.out HR.out.symm]; rfl, trans_ext xW hy2⟩
              · have e := Hj.out
                rw [allA_end (by simpa using hlt)] at e
                have HU := Lib.hid (HT.out HA.out e.symm)
                clear e
                go_wp2
                clear hlt Hj l1 a1 a1' a1'' f1
                go_loopw [8] (fun i wr => ∃ k : Nat, i = .int .i64 k ∧ k ≤ out.length ∧ (∃ y, wr = ext W y) ∧ setB n (out.take k) (out.drop k) = setB n [] out) (fun i _ => out.length - (intOf i).toNat)
                case atStart => exact ⟨0, rfl, by omega, hy, by simp⟩
                case round =>
                  obtain ⟨k, rfl, hk, hy3, hj⟩ := hrel
                  have Hj := Lib.hid hj
                  clear hj
                  obtain ⟨l3, a3, a3', a3'', f3⟩ := box3 (BoxAt.toExt (cs := #[_, _, _]) ⟨lW0, bW0, fW0⟩ hy3)
                  by_cases hlt : k < out.length
                  · have r2' := r2.toExt hy3
                    obtain ⟨b, o, rfl, hb, hc⟩ := r2'.atI hlt
                    have e := Hj.out
                    rw [setB_step hlt] at e
                    obtain ⟨x, hx⟩ : ∃ x, out[k] = x := ⟨_, rfl⟩
                    rw [hx] at e hc
                    obtain ⟨t1, ht1⟩ : ∃ t, inB x 0 ((n : Int) - 1) = t := ⟨_, rfl⟩
                    obtain ⟨m, hm⟩ : ∃ m, iof 0 x (out.take k) = m := ⟨_, rfl⟩
                    have hmm := iof_nonneg (n := x) 0 (out.take k)
                    rw [hm] at hmm
                    have hp := r2'.pre k
                    have HP := Lib.hid (show (out.take k).length = k by simp; omega)
                    have T1 := Lib.hid ht1
                    have T2 := Lib.hid hm
                    have g1 : (0 : Int) ≤ (k : Int) := by omega
                    have g2 : (k : Int) ≤ (e1 : Int) := by omega
                    rw [ht1] at e
                    cases t1 with
                    | false =>
                      have He := Lib.hid e
                      clear e ht1 hm hx hmm
                      go_wp2
                      refine wp_region_ext (by kernel_rfl) (by kernel_rfl) ?_
                      repeat (go_big_quiet_step ((go_at_call 117; (try rw [hw1]); exact quietSb (l1In_any _ _ _ _) T1.out)))
                      refine wpQuiet_nil ?_
                      rintro _ ⟨zz, rfl⟩
                      go_wp2
                      go_ret
                      exact ⟨by rw [HU.out, ← He.out]; rfl, (by refine Chg.isExt (F := []) ?_ (refl_ext _) (by simp); repeat (with_reducible (first | exact Chg.refl _ _ | exact Nat.le_refl _ | exact Chg.ofExt (by assumption) | refine Chg.trans0 ?_ (by assumption) | refine Chg.extS ?_ _ | refine Chg.alloc ?_ _ | refine Chg.drew ?_ | refine Chg.setCellE ?_ ?_ _ | refine le_addk ?_ _ | refine le_ext ?_ | refine le_alloc ?_ _ | refine le_setC ?_ _ _ | refine le_drew ?_ | assumption | (refine Nat.le_of_lt ?_; omega) | omega)))⟩
                    | true =>
                      by_cases hm0 : 0 ≤ m
                      · rw [decide_eq_true (hmm.1 hm0)] at e
                        have He := Lib.hid e
                        clear e ht1 hm hx hmm
                        go_wp2
                        refine wp_region_ext (by kernel_rfl) (by kernel_rfl) ?_
                        repeat (go_big_quiet_step (first | (go_at_call 117; (try rw [hw1]); exact quietSb (l1In_any _ _ _ _) T1.out) | (go_at_call 75; exact quietEi' (l7Find_n HP.out (by omega) hp.ext) T2.out)))
                        refine wpQuiet_nil ?_
                        rintro _ ⟨zz, rfl⟩
                        go_wp2
                        go_ret
                        exact ⟨by rw [HU.out, ← He.out]; rfl, (by refine Chg.isExt (F := []) ?_ (refl_ext _) (by simp); repeat (with_reducible (first | exact Chg.refl _ _ | exact Nat.le_refl _ | exact Chg.ofExt (by assumption) | refine Chg.trans0 ?_ (by assumption) | refine Chg.extS ?_ _ | refine Chg.alloc ?_ _ | refine Chg.drew ?_ | refine Chg.setCellE ?_ ?_ _ | refine le_addk ?_ _ | refine le_ext ?_ | refine le_alloc ?_ _ | refine le_setC ?_ _ _ | refine le_drew ?_ | assumption | (refine Nat.le_of_lt ?_; omega) | omega)))⟩
                      · rw [decide_eq_false (fun h => hm0 (hmm.2 h))] at e
                        have He := Lib.hid e
                        have hm1 : m < 0 := by omega
                        clear e ht1 hm hx hmm
                        go_wp2
                        refine wp_region_ext (by kernel_rfl) (by kernel_rfl) ?_
                        repeat (go_big_quiet_step (first | (go_at_call 117; (try rw [hw1]); exact quietSb (l1In_any _ _ _ _) T1.out) | (go_at_call 75; exact quietEi' (l7Find_n HP.out (by omega) hp.ext) T2.out)))
                        refine wpQuiet_nil ?_
                        rintro _ ⟨zz, rfl⟩
                        go_wp2
                        exact ⟨⟨k + 1, by go_num, by omega, (by refine Chg.isExt (F := []) ?_ (refl_ext _) (by simp); repeat (with_reducible (first | exact Chg.refl _ _ | exact Nat.le_refl _ | exact Chg.ofExt (by assumption) | refine Chg.trans0 ?_ (by assumption) | refine Chg.extS ?_ _ | refine Chg.alloc ?_ _ | refine Chg.drew ?_ | refine Chg.setCellE ?_ ?_ _ | refine le_addk ?_ _ | refine le_ext ?_ | refine le_alloc ?_ _ | refine le_setC ?_ _ _ | refine le_drew ?_ | assumption | (refine Nat.le_of_lt ?_; omega) | omega))), by simpa using He.out⟩, by simp [intOf]; omega⟩
                  · have e := Hj.out
                    rw [setB_end hlt] at e
                    have He := Lib.hid e
                    clear e
                    go_wp2
                    go_ret
                    exact ⟨by rw [HU.out, ← He.out]; rfl, trans_ext xW hy3⟩
theorem specIsValidQuery_any {A B : Option Addr} {c e1 : Nat} {d : Qd} {w : World} (hb : BQ d) (h : vQ w [.int .i64 d.1, .slice A d.2.1.length c, .slice B d.2.2.length e1] d) :
    Calls Try.prog 100 #[.agg #[.int .i64 d.1, .slice A d.2.1.length c, .slice B d.2.2.length e1]] w fun e w' => e = .returned (.bool (vqB d)) ∧ ∃ y, w' = ext w y := specIsValidQuery_w hb.w h
end Go.Proofs.Ytgoleefkbjjidaa

/- The neighbours of a variable: the plain way of it. -/
namespace Go.Proofs.Ytgoleefkbjjidaa
open Go.RowKit

def nbG (v : Int) : List Int → List At → List Int
  | acc, [] => acc
  | acc, a :: al => nbG v (if decide (v ∈ a.2) = true then uniL acc (avars 5 0 a.2) else acc) al
def nearP (v w : Int) (a : At) : Bool := decide (w ≠ v) && decide (v ∈ a.2) && decide (w ∈ a.2)
def nearS (ats : List At) (v w : Int) : Bool := ats.any (nearP v w)
def nbrs (d : Qd) (v : Int) : List Int := if vqB d = true then selF (nearS d.2.1 v) d.1.toNat 0 else []
theorem nbG_step {v : Int} {acc : List Int} {ats : List At} {k : Nat} (h : k < ats.length) : nbG v acc (ats.drop k) = nbG v (if decide (v ∈ ats[k].2) = true then uniL acc (avars 5 0 ats[k].2) else acc) (ats.drop (k + 1)) := by
  rw [List.drop_eq_getElem_cons h, nbG]
theorem nbG_end {v : Int} {acc : List Int} {ats : List At} {k : Nat} (h : ¬ k < ats.length) : nbG v acc (ats.drop k) = acc := by
  rw [List.drop_eq_nil_of_le (by omega), nbG]
theorem mem_nbG {v x : Int} : ∀ {ats : List At} {acc : List Int}, x ∈ nbG v acc ats ↔ x ∈ acc ∨ ∃ a ∈ ats, v ∈ a.2 ∧ x ∈ avars 5 0 a.2
  | [], acc => by simp [nbG]
  | a :: al, acc => by
    rw [nbG, mem_nbG (ats := al)]
    by_cases hv : v ∈ a.2
    · rw [if_pos (by simpa using hv), mem_uniL]
      constructor
      · rintro ((h | h) | ⟨b, hb, h1, h2⟩)
        · exact .inl h
        · exact .inr ⟨a, by simp, hv, h⟩
        · exact .inr ⟨b, by simp [hb], h1, h2⟩
      · rintro (h | ⟨b, hb, h1, h2⟩)
        · exact .inl (.inl h)
        · rcases List.mem_cons.1 hb with e | e
          · subst e; exact .inl (.inr h2)
          · exact .inr ⟨b, e, h1, h2⟩
    · rw [if_neg (by simpa using hv)]
      constructor
      · rintro (h | ⟨b, hb, h1, h2⟩)
        · exact .inl h
        · exact .inr ⟨b, by simp [hb], h1, h2⟩
      · rintro (h | ⟨b, hb, h1, h2⟩)
        · exact .inl h
        · rcases List.mem_cons.1 hb with e | e
          · subst e; exact absurd h1 hv
          · exact .inr ⟨b, e, h1, h2⟩
theorem asc_nbG {v : Int} : ∀ {ats : List At} {acc : List Int}, Asc acc → Asc (nbG v acc ats)
  | [], _, h => h
  | a :: al, acc, h => by
    rw [nbG]
    split
    · exact asc_nbG (asc_uniL h)
    · exact asc_nbG h
theorem vqB_vars {d : Qd} (h : vqB d = true) : 1 ≤ d.1 ∧ d.1 ≤ 5 ∧ ∀ a ∈ d.2.1, ∀ v ∈ a.2, 0 ≤ v ∧ v < d.1 := by
  unfold vqB at h
  simp only [Bool.and_eq_true, List.all_eq_true] at h
  obtain ⟨⟨⟨⟨h1, _⟩, _⟩, h4⟩, _⟩ := h
  have h1 := inB_t h1
  refine ⟨h1.1, h1.2, fun a ha v hv => ?_⟩
  have h5 := h4 a ha
  unfold atomB at h5
  simp only [Bool.and_eq_true, List.all_eq_true] at h5
  have := inB_t (h5.2 v hv)
  omega
theorem nb_eq {d : Qd} {v : Int} (h : vqB d = true) : strike v (nbG v [] d.2.1) = nbrs d v := by
  obtain ⟨h1, h2, h3⟩ := vqB_vars h
  unfold nbrs
  rw [if_pos h]
  refine asc_ext (asc_strike (asc_nbG asc_nil)) (asc_selF _ _) fun x => ?_
  rw [mem_strike, mem_nbG, mem_selF]
  unfold nearS nearP
  simp only [List.any_eq_true, Bool.and_eq_true, decide_eq_true_eq, mem_avars]
  constructor
  · rintro ⟨h4 | ⟨a, ha, h5, h6, h7, h8⟩, h9⟩
    · simp at h4
    · have := h3 a ha x h8
      exact ⟨by omega, by omega, a, ha, ⟨h9, h5⟩, h8⟩
  · rintro ⟨h4, h5, a, ha, ⟨h6, h7⟩, h8⟩
    exact ⟨.inr ⟨a, ha, h7, by omega, by omega, h8⟩, h6⟩
theorem nbrs_length (d : Qd) (v : Int) : (nbrs d v).length ≤ 5 := by
  unfold nbrs
  split
  · rename_i h
    obtain ⟨h1, h2, _⟩ := vqB_vars h
    have := selF_length (p := nearS d.2.1 v) d.1.toNat 0
    omega
  · simp
theorem nbG_length {v : Int} : ∀ {ats : List At} {acc : List Int}, (nbG v acc ats).length ≤ acc.length + 5 * ats.length
  | [], acc => by simp [nbG]
  | a :: al, acc => by
    rw [nbG]
    have h1 := avars_length 5 0 a.2
    have h2 := uniL_length (avars 5 0 a.2) acc
    split
    · have := nbG_length (v := v) (ats := al) (acc := uniL acc (avars 5 0 a.2))
      rw [List.length_cons]; omega
    · have := nbG_length (v := v) (ats := al) (acc := acc)
      rw [List.length_cons]; omega
end Go.Proofs.Ytgoleefkbjjidaa

/- Bindings of queries: the rows of an atom, all assignments for which every atom holds; the program's way and the reference's come to the same. No program in it. -/
namespace Go.Proofs.Ytgoleefkbjjidaa
open Go.RowKit

theorem map_at' {l : List Int} {h g : Int → Int} (e : l.map h = l.map g) : ∀ v ∈ l, h v = g v := fun v hv => List.map_inj_left.1 e v hv
def relOf (d : Dbd) (a : At) : Rd := (lookD d a.1).getD (0, [])
def atFit (d : Dbd) (a : At) : Bool := match lookD d a.1 with | some r => decide (r.1 = (a.2.length : Int)) | none => false
def iqfB (d : Dbd) (q : Qd) : Bool := vqB q && dbB d && q.2.1.all (atFit d)
/-- repeated variables have the same value -/
def rowFit (vars row : List Int) : Bool := decide (vars.map (valAt vars row) = row)
def atomBd (d : Dbd) (a : At) : Rd :=
  (((avars 5 0 a.2).length : Int), if atFit d a = true ∧ ∀ v ∈ a.2, 0 ≤ v ∧ v ≤ 4 then sortR (((relOf d a).2.filter (rowFit a.2)).map fun row => (avars 5 0 a.2).map (valAt a.2 row)) else [])
def atomVR (d : Dbd) (a : At) : VRd := (avars 5 0 a.2, atomBd d a)
theorem mem_av5 {xs : List Int} {x : Int} (h : ∀ v ∈ xs, 0 ≤ v ∧ v ≤ 4) : x ∈ avars 5 0 xs ↔ x ∈ xs := by
  rw [mem_avars]
  constructor
  · exact fun h => h.2.2
  · intro hx
    have := h x hx
    exact ⟨by omega, by omega, hx⟩
theorem atFit_some {d : Dbd} {a : At} (h : atFit d a = true) : dbB d = true ∧ TOk (a.1, relOf d a) ∧ (relOf d a).1 = (a.2.length : Int) := by
  unfold atFit at h
  cases e : lookD d a.1 with
  | none => rw [e] at h; cases h
  | some r =>
    rw [e] at h
    have h2 := lookD_ok e
    have er : relOf d a = r := by unfold relOf; rw [e]; rfl
    rw [er]
    exact ⟨h2.1, h2.2, by simpa using h⟩
theorem mem_atom {d : Dbd} {a : At} (hf : atFit d a = true) (hv : ∀ v ∈ a.2, 0 ≤ v ∧ v ≤ 4) {t : List Int} : t ∈ (atomBd d a).2 ↔ ∃ g : Int → Int, (avars 5 0 a.2).map g = t ∧ a.2.map g ∈ (relOf d a).2 := by
  unfold atomBd
  simp only
  rw [if_pos ⟨hf, hv⟩, mem_sortR, List.mem_map]
  constructor
  · rintro ⟨row, hr, rfl⟩
    rw [List.mem_filter] at hr
    have h2 : a.2.map (valAt a.2 row) = row := by simpa [rowFit] using hr.2
    exact ⟨valAt a.2 row, rfl, by rw [h2]; exact hr.1⟩
  · rintro ⟨g, rfl, hg⟩
    refine ⟨a.2.map g, List.mem_filter.2 ⟨hg, ?_⟩, List.map_congr_left fun v hm => valAt_map ((mem_av5 hv).1 hm)⟩
    unfold rowFit
    rw [decide_eq_true_eq]
    exact List.map_congr_left fun v hm => valAt_map hm
theorem atomBd_ok {d : Dbd} {a : At} : VrOk (atomVR d a) := by
  have hlo : ∀ v ∈ avars 5 0 a.2, 0 ≤ v ∧ v ≤ 4 := fun v hv => by
    have := (mem_avars 5 0 _ _).1 hv
    omega
  have hasc := asc_avars 5 0 a.2
  unfold atomVR atomBd
  by_cases hc : atFit d a = true ∧ ∀ v ∈ a.2, 0 ≤ v ∧ v ≤ 4
  · rw [if_pos hc]
    obtain ⟨_, hT, hl⟩ := atFit_some hc.1
    have hr := rowsB_iff.1 hT.rel
    have hcnt := hT.cnt
    refine ⟨hasc, hlo, asc_len5 hasc hlo, rfl, ?_, fun r hr => ?_, fun r hrm => ?_, asc_sortR _⟩
    · refine Nat.le_trans (sortR_length _) ?_
      rw [List.length_map]
      refine Nat.le_trans (List.length_filter_le _ _) ?_
      simp only at hcnt ⊢
      omega
    · obtain ⟨row, _, rfl⟩ := List.mem_map.1 (mem_sortR.1 hr)
      simp
    · obtain ⟨row, h2, rfl⟩ := List.mem_map.1 (mem_sortR.1 hrm)
      rw [List.mem_filter] at h2
      have h3 := hr.2.2.2.1 row h2.1
      rw [rowV_iff]
      intro x hx
      obtain ⟨v, hv, rfl⟩ := List.mem_map.1 hx
      refine rowV_iff.1 h3.2 _ (valAt_mem ((mem_av5 hc.2).1 hv) ?_)
      have := h3.1
      simp only at this
      omega
  · rw [if_neg hc]
    exact ⟨hasc, hlo, asc_len5 hasc hlo, rfl, by simp, by simp, by simp, ascR_nil⟩
theorem atomBd_cnt {d : Dbd} {a : At} : (atomBd d a).2.length ≤ 16 := by
  unfold atomBd
  simp only
  split
  · rename_i hc
    obtain ⟨_, hT, _⟩ := atFit_some hc.1
    refine Nat.le_trans (sortR_length _) ?_
    rw [List.length_map]
    exact Nat.le_trans (List.length_filter_le _ _) hT.cnt
  · simp

/-! ### all bindings -/
/-- one atom's row laid over a row not yet whole -/
def fitX : List Int → List Int → List Int → Option (List Int)
  | x, v :: vs, y :: ys => if x.getD v.toNat 0 = -1 ∨ x.getD v.toNat 0 = y then fitX (x.set v.toNat y) vs ys else none
  | x, _, _ => some x
def walkL (d : Dbd) : List At → List Int → List (List Int)
  | [], row => [row]
  | a :: ats, row => (relOf d a).2.flatMap fun r => match fitX row a.2 r with | some x => walkL d ats x | none => []
def allB (d : Dbd) (q : Qd) : List (List Int) := sortR (walkL d q.2.1 (List.replicate q.1.toNat (-1)))
def bindR (d : Dbd) (q : Qd) : Option Rd := if iqfB d q = true ∧ (allB d q).length ≤ 4000 then some (q.1, allB d q) else none
/-- the program's way -/
def stepB (d : Dbd) (s : List Int × List (List Int)) (a : At) : List Int × List (List Int) := (uniL s.1 (avars 5 0 a.2), joinL (uniL s.1 (avars 5 0 a.2)) s.1 s.2 (avars 5 0 a.2) (atomBd d a).2)
def foldB (d : Dbd) (ats : List At) : List Int × List (List Int) := ats.foldl (stepB d) ([], [[]])

theorem getD_set_self {x : List Int} {i : Nat} {y : Int} (h : i < x.length) : (x.set i y).getD i 0 = y := by
  rw [getDl _ _ (by simpa using h)]; simp
theorem getD_set_ne {x : List Int} {i j : Nat} {y : Int} (h : i ≠ j) : (x.set i y).getD j 0 = x.getD j 0 := by
  simp only [List.getD_eq_getElem?_getD, List.getElem?_set, if_neg h]
/-- z is x, filled in further -/
def Over (x z : List Int) : Prop := z.length = x.length ∧ ∀ i, i < x.length → x.getD i 0 ≠ -1 → z.getD i 0 = x.getD i 0
theorem fitX_iff : ∀ {vs ys : List Int} {x z : List Int}, vs.length = ys.length → (∀ v ∈ vs, 0 ≤ v ∧ v < x.length) → (∀ y ∈ ys, y ≠ -1) →
    (fitX x vs ys = some z ↔ Over x z ∧ pickL z vs = ys ∧ ∀ i, i < x.length → x.getD i 0 = -1 → (i : Int) ∉ vs → z.getD i 0 = -1)
  | [], [], x, z, _, _, _ => by
    simp only [fitX, Option.some.injEq]
    constructor
    · rintro rfl
      exact ⟨⟨rfl, fun _ _ _ => rfl⟩, rfl, fun _ _ h _ => h⟩
    · rintro ⟨⟨h1, h2⟩, _, h3⟩
      apply List.ext_getElem h1.symm
      intro i h4 h5
      have e1 : x[i] = x.getD i 0 := (getDl _ _ h4).symm
      have e2 : z[i] = z.getD i 0 := (getDl _ _ h5).symm
      rw [e1, e2]
      by_cases h6 : x.getD i 0 = -1
      · rw [h6, h3 i h4 h6 (by simp)]
      · exact (h2 i h4 h6).symm
  | [], _ :: _, _, _, h, _, _ => by simp at h
  | _ :: _, [], _, _, h, _, _ => by simp at h
  | v :: vs, y :: ys, x, z, hl, hv, hy => by
    have hv0 := hv v (by simp)
    have hy0 := hy y (by simp)
    obtain ⟨n, rfl⟩ := Int.eq_ofNat_of_zero_le hv0.1
    have hn : n < x.length := by omega
    rw [fitX, Int.toNat_natCast]
    by_cases hc : x.getD n 0 = -1 ∨ x.getD n 0 = y
    · rw [if_pos hc, fitX_iff (x := x.set n y) (by simpa using hl) (by simpa using fun u hu => hv u (by simp [hu])) (fun u hu => hy u (by simp [hu]))]
      constructor
      · rintro ⟨⟨h1, h2⟩, h3, h4⟩
        rw [List.length_set] at h1 h2 h4
        have hz : z.getD n 0 = y := by
          rw [h2 n hn (by rw [getD_set_self hn]; exact hy0), getD_set_self hn]
        refine ⟨⟨h1, fun i hi hx => ?_⟩, ?_, fun i hi hx hm => ?_⟩
        · by_cases e : n = i
          · subst e
            rcases hc with hc | hc
            · exact absurd hc hx
            · rw [hz, hc]
          · have := h2 i hi (by rw [getD_set_ne e]; exact hx)
            rwa [getD_set_ne e] at this
        · unfold pickL at h3 ⊢
          rw [List.map_cons, h3, Int.toNat_natCast, hz]
        · rw [List.mem_cons, not_or] at hm
          have e : n ≠ i := fun e => hm.1 (by rw [e])
          exact h4 i hi (by rw [getD_set_ne e]; exact hx) hm.2
      · rintro ⟨⟨h1, h2⟩, h3, h4⟩
        unfold pickL at h3
        rw [List.map_cons, List.cons.injEq, Int.toNat_natCast] at h3
        refine ⟨⟨by rw [List.length_set]; exact h1, fun i hi hx => ?_⟩, h3.2, fun i hi hx hm => ?_⟩
        · rw [List.length_set] at hi
          by_cases e : n = i
          · subst e
            rw [getD_set_self hn]; exact h3.1
          · rw [getD_set_ne e] at hx ⊢
            exact h2 i hi hx
        · rw [List.length_set] at hi
          by_cases e : n = i
          · subst e
            rw [getD_set_self hn] at hx
            exact absurd hx hy0
          · rw [getD_set_ne e] at hx
            exact h4 i hi hx (by rw [List.mem_cons, not_or]; exact ⟨fun k => e (by omega), hm⟩)
    · rw [if_neg hc]
      constructor
      · intro h; cases h
      · rintro ⟨⟨h1, h2⟩, h3, h4⟩
        exfalso
        unfold pickL at h3
        rw [List.map_cons, List.cons.injEq, Int.toNat_natCast] at h3
        rw [not_or] at hc
        exact hc.2 (by rw [← h2 n hn hc.1, h3.1])
/-- every atom holds -/
def Holds (d : Dbd) (ats : List At) (z : List Int) : Prop := ∀ a ∈ ats, pickL z a.2 ∈ (relOf d a).2
theorem walkL_iff {d : Dbd} : ∀ {ats : List At} {x z : List Int}, (∀ a ∈ ats, atFit d a = true ∧ ∀ v ∈ a.2, 0 ≤ v ∧ v < x.length) →
    (z ∈ walkL d ats x ↔ Over x z ∧ Holds d ats z ∧ ∀ i, i < x.length → x.getD i 0 = -1 → (∀ a ∈ ats, (i : Int) ∉ a.2) → z.getD i 0 = -1)
  | [], x, z, _ => by
    rw [walkL, List.mem_singleton]
    have := fitX_iff (vs := []) (ys := []) (x := x) (z := z) rfl (by simp) (by simp)
    simp only [fitX, Option.some.injEq] at this
    rw [eq_comm, this]
    simp [Holds, pickL]
  | a :: ats, x, z, h => by
    obtain ⟨hf, hv⟩ := h a (by simp)
    obtain ⟨_, hT, hl⟩ := atFit_some hf
    have hr := (rowsB_iff.1 hT.rel).2.2.2.1
    simp only at hr
    rw [walkL, List.mem_flatMap]
    constructor
    · rintro ⟨r, hrm, hz⟩
      have h1 := hr r hrm
      have hfx := fun x' => fitX_iff (vs := a.2) (ys := r) (x := x) (z := x') (by omega) hv (fun y hy => by have := (rowV_iff.1 h1.2 y hy).1; omega)
      cases e : fitX x a.2 r with
      | none => rw [e] at hz; simp at hz
      | some x' =>
        rw [e] at hz
        obtain ⟨⟨o1, o2⟩, p1, u1⟩ := (hfx x').1 e
        have ih := (walkL_iff (d := d) (ats := ats) (x := x') (z := z) (fun b hb => by rw [o1]; exact h b (by simp [hb]))).1 hz
        obtain ⟨⟨q1, q2⟩, q3, q4⟩ := ih
        have hzx : ∀ i, i < x.length → x'.getD i 0 ≠ -1 → z.getD i 0 = x'.getD i 0 := fun i hi h => q2 i (by omega) h
        refine ⟨⟨by omega, fun i hi hx => ?_⟩, fun b hb => ?_, fun i hi hx hm => ?_⟩
        · rw [hzx i hi (by rw [o2 i hi hx]; exact hx), o2 i hi hx]
        · rcases List.mem_cons.1 hb with e | e
          · subst e
            have : pickL z b.2 = pickL x' b.2 := by
              unfold pickL
              refine List.map_congr_left fun v hvm => ?_
              have hb2 := hv v hvm
              refine hzx v.toNat (by omega) ?_
              have hp : x'.getD v.toNat 0 ∈ pickL x' b.2 := List.mem_map.2 ⟨v, hvm, rfl⟩
              rw [p1] at hp
              have := (rowV_iff.1 h1.2 _ hp).1
              omega
            rw [this, p1]
            exact hrm
          · exact q3 b e
        · refine q4 i (by omega) (u1 i hi hx (hm a (by simp))) fun b hb => hm b (by simp [hb])
    · rintro ⟨⟨o1, o2⟩, hH, u1⟩
      refine ⟨pickL z a.2, hH a (by simp), ?_⟩
      have h1 := hr _ (hH a (by simp))
      -- what is laid over x so far
      obtain ⟨x', hx'⟩ : ∃ x' : List Int, x' = (List.range x.length).map fun (i : Nat) => if (i : Int) ∈ a.2 then z.getD i 0 else x.getD i 0 := ⟨_, rfl⟩
      have hlx : x'.length = x.length := by rw [hx']; simp
      have hgx : ∀ i, i < x.length → x'.getD i 0 = if (i : Int) ∈ a.2 then z.getD i 0 else x.getD i 0 := fun i hi => by
        rw [hx', getDl _ _ (by simpa using hi)]; simp
      have e : fitX x a.2 (pickL z a.2) = some x' := by
        rw [fitX_iff (by simp [pickL]) hv (fun y hy => by have := (rowV_iff.1 h1.2 y hy).1; omega)]
        refine ⟨⟨hlx, fun i hi hx => ?_⟩, ?_, fun i hi hx hm => ?_⟩
        · rw [hgx i hi]; split
          · exact o2 i hi hx
          · rfl
        · unfold pickL
          refine List.map_congr_left fun v hvm => ?_
          have hb := hv v hvm
          rw [hgx _ (by omega), if_pos (by rw [Int.toNat_of_nonneg hb.1]; exact hvm)]
        · rw [hgx i hi, if_neg hm]; exact hx
      rw [e]
      rw [walkL_iff (fun b hb => by rw [hlx]; exact h b (by simp [hb]))]
      refine ⟨⟨by omega, fun i hi hx => ?_⟩, fun b hb => hH b (by simp [hb]), fun i hi hx hm => ?_⟩
      · rw [hlx] at hi
        rw [hgx i hi] at hx ⊢
        split
        · rfl
        · rename_i k
          rw [if_neg k] at hx
          exact o2 i hi hx
      · rw [hlx] at hi
        by_cases k : (i : Int) ∈ a.2
        · rw [hgx i hi, if_pos k] at hx; exact hx
        · rw [hgx i hi, if_neg k] at hx
          exact u1 i hi hx fun b hb => by
            rcases List.mem_cons.1 hb with e | e
            · subst e; exact k
            · exact hm b e

/-- what is known of a query that fits a database -/
structure QOk (d : Dbd) (q : Qd) : Prop where
  n1 : 1 ≤ q.1
  n5 : q.1 ≤ 5
  db : dbB d = true
  at1 : 1 ≤ q.2.1.length
  at4 : q.2.1.length ≤ 4
  fit : ∀ a ∈ q.2.1, atFit d a = true
  vars : ∀ a ∈ q.2.1, ∀ v ∈ a.2, 0 ≤ v ∧ v < q.1
  cov : ∀ v : Int, 0 ≤ v → v < q.1 → ∃ a ∈ q.2.1, v ∈ a.2
  out : ∀ v ∈ q.2.2, 0 ≤ v ∧ v < q.1
theorem mem_allB {d : Dbd} {q : Qd} (h : QOk d q) {z : List Int} : z ∈ allB d q ↔ (z.length : Int) = q.1 ∧ Holds d q.2.1 z := by
  have h1 := h.n1
  unfold allB
  rw [mem_sortR, walkL_iff (fun a ha => ⟨h.fit a ha, fun v hv => by have := h.vars a ha v hv; simp; omega⟩)]
  simp only [List.length_replicate]
  constructor
  · rintro ⟨⟨o1, _⟩, h2, _⟩
    rw [List.length_replicate] at o1
    exact ⟨by omega, h2⟩
  · rintro ⟨h2, h3⟩
    refine ⟨⟨by rw [List.length_replicate]; omega, fun i hi hx => ?_⟩, h3, fun i hi _ hm => ?_⟩
    · rw [List.length_replicate] at hi
      rw [getDl _ _ (by simpa using hi), List.getElem_replicate] at hx
      exact absurd rfl hx
    · obtain ⟨a, ha, hv⟩ := h.cov (i : Int) (by omega) (by omega)
      exact absurd hv (hm a ha)
def idV (n : Int) : List Int := (List.range n.toNat).map fun (i : Nat) => (i : Int)
theorem mem_idV {n v : Int} : v ∈ idV n ↔ 0 ≤ v ∧ v < n := by
  unfold idV
  rw [List.mem_map]
  constructor
  · rintro ⟨i, hi, rfl⟩
    have := List.mem_range.1 hi
    omega
  · rintro ⟨h1, h2⟩
    exact ⟨v.toNat, List.mem_range.2 (by omega), by omega⟩
theorem asc_idV (n : Int) : Asc (idV n) := List.pairwise_map.2 (List.Pairwise.imp (fun {a b} h => by omega) List.pairwise_lt_range)
theorem idV_get {n : Int} {g : Int → Int} {v : Int} (h : 0 ≤ v ∧ v < n) : ((idV n).map g).getD v.toNat 0 = g v := by
  unfold idV
  rw [List.map_map, getDl _ _ (by simp; omega)]
  simp [Int.toNat_of_nonneg h.1]
theorem pick_idV {n : Int} {g : Int → Int} {l : List Int} (h : ∀ v ∈ l, 0 ≤ v ∧ v < n) : pickL ((idV n).map g) l = l.map g := List.map_congr_left fun v hv => idV_get (h v hv)
theorem holds_map {d : Dbd} {q : Qd} (h : QOk d q) {g : Int → Int} : Holds d q.2.1 ((idV q.1).map g) ↔ ∀ a ∈ q.2.1, a.2.map g ∈ (relOf d a).2 := by
  unfold Holds
  constructor
  · intro hh a ha
    have := hh a ha
    rwa [pick_idV (h.vars a ha)] at this
  · intro hh a ha
    rw [pick_idV (h.vars a ha)]
    exact hh a ha
theorem row_map {n : Int} {z : List Int} (h : (z.length : Int) = n) : (idV n).map (fun v => z.getD v.toNat 0) = z := by
  subst h
  apply List.ext_getElem
  · simp [idV]
  · intro i h1 h2
    simp only [idV, List.map_map, List.getElem_map, List.getElem_range, Function.comp, Int.toNat_natCast]
    exact getDl _ _ h2
theorem allB_g {d : Dbd} {q : Qd} (h : QOk d q) {z : List Int} : z ∈ allB d q ↔ ∃ g : Int → Int, (idV q.1).map g = z ∧ ∀ a ∈ q.2.1, a.2.map g ∈ (relOf d a).2 := by
  rw [mem_allB h]
  constructor
  · rintro ⟨h1, h2⟩
    refine ⟨_, row_map h1, ?_⟩
    rw [← holds_map h, row_map h1]
    exact h2
  · rintro ⟨g, rfl, hg⟩
    have := h.n1
    exact ⟨by simp [idV]; omega, (holds_map h).2 hg⟩
theorem snoc_ind {α : Type} {P : List α → Prop} (h0 : P []) (h1 : ∀ l a, P l → P (l ++ [a])) (l : List α) : P l := by
  rw [← List.reverse_reverse l]
  induction l.reverse with
  | nil => exact h0
  | cons a l ih => rw [List.reverse_cons]; exact h1 _ _ ih
/-- the program's fold -/
theorem foldB_iff {d : Dbd} : ∀ {ats : List At}, (∀ a ∈ ats, atFit d a = true ∧ ∀ v ∈ a.2, 0 ≤ v ∧ v ≤ 4) →
    Asc (foldB d ats).1 ∧ (∀ v, v ∈ (foldB d ats).1 ↔ ∃ a ∈ ats, v ∈ a.2) ∧ ∀ t, t ∈ (foldB d ats).2 ↔ ∃ g : Int → Int, (foldB d ats).1.map g = t ∧ ∀ a ∈ ats, a.2.map g ∈ (relOf d a).2 := by
  intro ats
  induction ats using snoc_ind with
  | h0 =>
    intro _
    refine ⟨asc_nil, by simp [foldB], fun t => ?_⟩
    simp [foldB, eq_comm]
  | h1 ats a ih =>
    intro h
    obtain ⟨i1, i2, i3⟩ := ih fun b hb => h b (by simp [hb])
    obtain ⟨hf, hv⟩ := h a (by simp)
    have e : foldB d (ats ++ [a]) = stepB d (foldB d ats) a := by simp [foldB]
    obtain ⟨s, hs⟩ : ∃ s, foldB d ats = s := ⟨_, rfl⟩
    rw [hs] at i1 i2 i3 e
    rw [e]
    have hok := atomBd_ok (d := d) (a := a)
    have hm : ∀ v, v ∈ uniL s.1 (avars 5 0 a.2) ↔ ∃ b ∈ ats ++ [a], v ∈ b.2 := fun v => by
      rw [mem_uniL, i2, mem_av5 hv]
      simp only [List.mem_append, List.mem_singleton]
      constructor
      · rintro (⟨b, hb, k⟩ | k)
        · exact ⟨b, .inl hb, k⟩
        · exact ⟨a, .inr rfl, k⟩
      · rintro ⟨b, hb | rfl, k⟩
        · exact .inl ⟨b, hb, k⟩
        · exact .inr k
    refine ⟨asc_uniL i1, hm, fun t => ?_⟩
    unfold stepB
    simp only
    rw [mem_joinL (va := s.1) (ra := s.2) (vb := avars 5 0 a.2) (rb := (atomBd d a).2) (asc_nodup i1) (asc_nodup hok.asc) (fun r hr => by obtain ⟨g, rfl, _⟩ := (i3 r).1 hr; simp) (fun r hr => hok.rl r hr) (fun v hv => mem_uniL.1 hv)]
    constructor
    · rintro ⟨g, rfl, h1, h2⟩
      refine ⟨g, rfl, fun b hb => ?_⟩
      rcases List.mem_append.1 hb with hb | hb
      · obtain ⟨g', e', h3⟩ := (i3 _).1 h1
        have := map_at' e'
        rw [List.map_congr_left (g := g') fun v hvm => (this v ((i2 v).2 ⟨b, hb, hvm⟩)).symm]
        exact h3 b hb
      · obtain rfl := List.mem_singleton.1 hb
        obtain ⟨g', e', h3⟩ := (mem_atom hf hv).1 h2
        have := map_at' e'
        rw [List.map_congr_left (g := g') fun v hvm => (this v ((mem_av5 hv).2 hvm)).symm]
        exact h3
    · rintro ⟨g, rfl, hg⟩
      exact ⟨g, rfl, (i3 _).2 ⟨g, rfl, fun b hb => hg b (by simp [hb])⟩, (mem_atom hf hv).2 ⟨g, rfl, hg a (by simp)⟩⟩
theorem foldB_all {d : Dbd} {q : Qd} (h : QOk d q) : (foldB d q.2.1).1 = idV q.1 ∧ sortR (foldB d q.2.1).2 = allB d q := by
  have h5 := h.n5
  obtain ⟨h1, h2, h3⟩ := foldB_iff (d := d) (ats := q.2.1) fun a ha => ⟨h.fit a ha, fun v hv => by have := h.vars a ha v hv; omega⟩
  have e : (foldB d q.2.1).1 = idV q.1 := asc_ext h1 (asc_idV _) fun v => by
    rw [h2, mem_idV]
    constructor
    · rintro ⟨a, ha, hv⟩; exact h.vars a ha v hv
    · rintro ⟨k1, k2⟩; exact h.cov v k1 k2
  refine ⟨e, ?_⟩
  refine ascR_ext (asc_sortR _) (asc_sortR _) fun t => ?_
  rw [mem_sortR, h3, e]
  exact (allB_g h).symm
end Go.Proofs.Ytgoleefkbjjidaa

/- Queries that fit a database: the program's way and the reference's. -/
namespace Go.Proofs.Ytgoleefkbjjidaa
open Go.RowKit

def fitO (o : Option Rd) (n : Nat) : Bool := match o with | some r => decide (r.1 = (n : Int)) | none => false
theorem atFit_look {d : Dbd} {a : At} {o : Option Rd} (h : lookD d a.1 = o) : atFit d a = fitO o a.2.length := by
  subst h
  rfl
theorem fitL_step {d : Dbd} {l : List At} {k : Nat} (h : k < l.length) : (l.drop k).all (atFit d) = (atFit d l[k] && (l.drop (k + 1)).all (atFit d)) := by
  rw [List.drop_eq_getElem_cons h, List.all_cons]
theorem fitL_end {d : Dbd} {l : List At} {k : Nat} (h : ¬ k < l.length) : (l.drop k).all (atFit d) = true := by
  rw [List.drop_eq_nil_of_le (by omega)]; rfl
/-- what is known where a relation was looked up into a fresh box -/
def CutR (o : Option Rd) (W : World) (va vb : Value) (wx : World) : Prop := ∃ b A c, va = .pointer (some ⟨b, 0, none⟩) ∧ vb = .bool o.isSome ∧ BoxAt wx b #[.int .i64 (o.getD (0, [])).1, .slice A (o.getD (0, [])).2.length c] ∧ RII wx A (o.getD (0, [])).2 ∧ W.heap.size ≤ b ∧ ∃ y, wx = ext W y
/-- sizes of what is looked up -/
theorem look_w {d : Dbd} (h : WDb d) {name : ByteArray} {r : Rd} (hl : lookD d name = some r) : r.2.length ≤ 1000000000 ∧ ∀ x ∈ r.2, x.length ≤ 1000000000 := by
  unfold lookD at hl
  split at hl
  · have := fndD_mem hl
    exact ⟨h.rn _ this, h.rl _ this⟩
  · cases hl
set_option maxRecDepth 100000 in
set_option maxHeartbeats 16000000 in
theorem IsQueryFor_any {A B C : Option Addr} {c e g : Nat} {d : Dbd} {q : Qd} {w : World} (hd : WDb d) (h1 : RV 3 vTb w A d) (hb : BQ q) (h2 : vQ w [.int .i64 q.1, .slice B q.2.1.length e, .slice C q.2.2.length g] q) :
    Calls Try.prog 41 #[.agg #[.slice A d.length c], .agg #[.int .i64 q.1, .slice B q.2.1.length e, .slice C q.2.2.length g]] w fun e w' => e = .returned (.bool (iqfB d q)) ∧ ∃ y, w' = ext w y := by
  have HD := Lib.hid hd
  have HB := Lib.hid hb
  have HV := Lib.hid h2
  have h3 := (vAts_get (vQ_get h2).1).2
  have hal := hb.2.1.1
  obtain ⟨t1, ht1⟩ : ∃ t, vqB q = t := ⟨_, rfl⟩
  obtain ⟨t2, ht2⟩ : ∃ t, dbB d = t := ⟨_, rfl⟩
  have HT1 := Lib.hid ht1
  have HT2 := Lib.hid ht2
  have HE := Lib.hid (show iqfB d q = (t1 && t2 && q.2.1.all (atFit d)) by unfold iqfB; rw [ht1, ht2])
  clear hd hb h2 ht1 ht2
  go_enter Try.func41, Try.ntmps41
  go_upto_region 1 with fail
  refine wp_name ?_
  intro W hW
  have xW : ∃ y, W = ext w y := by rw [hW.out]; exact (by refine Chg.isExt (F := []) ?_ (refl_ext _) (by simp); repeat (with_reducible (first | exact Chg.refl _ _ | exact Nat.le_refl _ | exact Chg.ofExt (by assumption) | refine Chg.trans0 ?_ (by assumption) | refine Chg.extS ?_ _ | refine Chg.alloc ?_ _ | refine Chg.drew ?_ | refine Chg.setCellE ?_ ?_ _ | refine le_addk ?_ _ | refine le_ext ?_ | refine le_alloc ?_ _ | refine le_setC ?_ _ _ | refine le_drew ?_ | assumption | (refine Nat.le_of_lt ?_; omega) | omega)))
  have PW : BoxAt W w.heap.size #[.slice A d.length c] := by rw [hW.out]; exact (by repeat (with_reducible (first | assumption | exact BoxAt.new _ _ _ | apply BoxAt.set10 | apply BoxAt.set2 | refine BoxAt.set2' ?_ (by omega) | apply BoxAt.setP0 | apply BoxAt.setP1 | refine BoxAt.setO ?_ (by omega) | refine BoxAt.alloc ?_ _ | refine BoxAt.drew ?_ | refine BoxAt.toExt ?_ (by assumption))))
  have QW : BoxAt W (w.heap.size + 1) #[.int .i64 q.1, .slice B q.2.1.length e, .slice C q.2.2.length g] := by
    rw [hW.out]
    simpa using BoxAt.new (w.alloc (.cells #[.slice A d.length c] 45)) #[.int .i64 q.1, .slice B q.2.1.length e, .slice C q.2.2.length g] 66
  obtain ⟨lq, q0, q1, q2, fq⟩ := box3 QW
  clear hW
  cases t1 with
  | false =>
    go_wp2_with (go_at_call 102; refine (IsValidQuery_any HB.out (VD.toExt HV.out xW)).mono ?_; rintro e w1 ⟨rfl, hx1⟩; rw [HT1.out])
    go_ret
    exact ⟨by rw [HE.out]; rfl, (by refine Chg.isExt (F := []) ?_ (refl_ext _) (by simp); repeat (with_reducible (first | exact Chg.refl _ _ | exact Nat.le_refl _ | exact Chg.ofExt (by assumption) | refine Chg.trans0 ?_ (by assumption) | refine Chg.extS ?_ _ | refine Chg.alloc ?_ _ | refine Chg.drew ?_ | refine Chg.setCellE ?_ ?_ _ | refine le_addk ?_ _ | refine le_ext ?_ | refine le_alloc ?_ _ | refine le_setC ?_ _ _ | refine le_drew ?_ | assumption | (refine Nat.le_of_lt ?_; omega) | omega)))⟩
  | true =>
    cases t2 with
    | false =>
      go_wp2_with (first
        | (go_at_call 102; refine (IsValidQuery_any HB.out (VD.toExt HV.out xW)).mono ?_; rintro e w1 ⟨rfl, hx1⟩; rw [HT1.out]; obtain ⟨lp1, p10, fp1⟩ := bx1 (PW.toExt hx1))
        | (go_at_call 82; refine (IsValidDatabase_w HD.out (h1.toExt (trans_ext xW hx1))).mono ?_; rintro e w2 ⟨rfl, hx2⟩; rw [HT2.out]))
      go_ret
      exact ⟨by rw [HE.out]; rfl, (by refine Chg.isExt (F := []) ?_ (refl_ext _) (by simp); repeat (with_reducible (first | exact Chg.refl _ _ | exact Nat.le_refl _ | exact Chg.ofExt (by assumption) | refine Chg.trans0 ?_ (by assumption) | refine Chg.extS ?_ _ | refine Chg.alloc ?_ _ | refine Chg.drew ?_ | refine Chg.setCellE ?_ ?_ _ | refine le_addk ?_ _ | refine le_ext ?_ | refine le_alloc ?_ _ | refine le_setC ?_ _ _ | refine le_drew ?_ | assumption | (refine Nat.le_of_lt ?_; omega) | omega)))⟩
    | true =>
      have HE2 := Lib.hid (show iqfB d q = q.2.1.all (atFit d) by rw [HE.out]; rfl)
      go_upto_region 3 with (first
        | (go_at_call 102; refine (IsValidQuery_any HB.out (VD.toExt HV.out xW)).mono ?_; rintro e w1 ⟨rfl, hx1⟩; rw [HT1.out]; obtain ⟨lp1, p10, fp1⟩ := bx1 (PW.toExt hx1))
        | (go_at_call 82; refine (IsValidDatabase_w HD.out (h1.toExt (trans_ext xW hx1))).mono ?_; rintro e w2 ⟨rfl, hx2⟩; rw [HT2.out]))
      have x2 := trans_ext hx1 hx2
      have xw2 := trans_ext xW x2
      have P2 := PW.toExt x2
      have Q2 := QW.toExt x2
      obtain ⟨lq2, q20, q21, q22, fq2⟩ := box3 Q2
      clear lq q0 q1 q2 fq lp1 p10 fp1 PW QW HB HV
      go_wp2_with fail
      clear lq2 q20 q21 q22 fq2
      go_loopw [20] (fun i wr => ∃ k : Nat, i = .int .i64 k ∧ k ≤ q.2.1.length ∧ (∃ y, wr = ext w2 y) ∧ Hid ((q.2.1.drop k).all (atFit d) = q.2.1.all (atFit d))) (fun i _ => q.2.1.length - (intOf i).toNat)
      case atStart => exact ⟨0, rfl, by omega, refl_ext w2, Lib.hid (by simp)⟩
      case round =>
        obtain ⟨k, rfl, hk, hy, Hj⟩ := hrel
        have hyw := trans_ext xw2 hy
        have P3 := P2.toExt hy
        obtain ⟨lp3, p30, fp3⟩ := bx1 P3
        by_cases hlt : k < q.2.1.length
        · obtain ⟨b, o, A1, c1, rfl, hbb, hc, hc1, hv⟩ := (h3.toExt hyw).atA hlt
          have e := Hj.out
          rw [fitL_step hlt] at e
          obtain ⟨x, hx⟩ : ∃ x, q.2.1[k] = x := ⟨_, rfl⟩
          rw [hx] at e hc hc1 hv
          obtain ⟨o, ho⟩ : ∃ o, lookD d x.1 = o := ⟨_, rfl⟩
          have HO := Lib.hid ho
          rw [atFit_look ho] at e
          clear hx ho hv
          cases o with
          | none =>
            have HF := Lib.hid (show q.2.1.all (atFit d) = false by rw [← e]; rfl)
            clear e
            go_wp2_with (go_at_call 103; refine (LookupRelation_any HD.out (h1.toExt (trans_ext hyw (by refine Chg.isExt (F := []) ?_ (refl_ext _) (by simp); repeat (with_reducible (first | exact Chg.refl _ _ | exact Nat.le_refl _ | exact Chg.ofExt (by assumption) | refine Chg.trans0 ?_ (by assumption) | refine Chg.extS ?_ _ | refine Chg.alloc ?_ _ | refine Chg.drew ?_ | refine Chg.setCellE ?_ ?_ _ | refine le_addk ?_ _ | refine le_ext ?_ | refine le_alloc ?_ _ | refine le_setC ?_ _ _ | refine le_drew ?_ | assumption | (refine Nat.le_of_lt ?_; omega) | omega)))))).mono ?_; rw [HO.out]; rintro e w3 ⟨u0, u1, F3, rfl, hx3, hS3, hN3, hF3⟩; obtain ⟨A3, c3, rfl, rfl, _⟩ := sRel_form hS3)
            go_ret
            exact ⟨by rw [HE2.out, HF.out]; rfl, (by refine Chg.isExt (F := []) ?_ (refl_ext _) (by simp); repeat (with_reducible (first | exact Chg.refl _ _ | exact Nat.le_refl _ | exact Chg.ofExt (by assumption) | refine Chg.trans0 ?_ (by assumption) | refine Chg.extS ?_ _ | refine Chg.alloc ?_ _ | refine Chg.drew ?_ | refine Chg.setCellE ?_ ?_ _ | refine le_addk ?_ _ | refine le_ext ?_ | refine le_alloc ?_ _ | refine le_setC ?_ _ _ | refine le_drew ?_ | assumption | (refine Nat.le_of_lt ?_; omega) | omega)))⟩
          | some r =>
            by_cases hr : r.1 = (x.2.length : Int)
            · rw [show fitO (some r) x.2.length = true from decide_eq_true hr] at e
              have HK := Lib.hid (show (q.2.1.drop (k + 1)).all (atFit d) = q.2.1.all (atFit d) by rw [← e]; rfl)
              have hne : (r.1 != (x.2.length : Int)) = false := by simpa using hr
              clear e hr
              go_wp2_with (go_at_call 103; refine (LookupRelation_any HD.out (h1.toExt (trans_ext hyw (by refine Chg.isExt (F := []) ?_ (refl_ext _) (by simp); repeat (with_reducible (first | exact Chg.refl _ _ | exact Nat.le_refl _ | exact Chg.ofExt (by assumption) | refine Chg.trans0 ?_ (by assumption) | refine Chg.extS ?_ _ | refine Chg.alloc ?_ _ | refine Chg.drew ?_ | refine Chg.setCellE ?_ ?_ _ | refine le_addk ?_ _ | refine le_ext ?_ | refine le_alloc ?_ _ | refine le_setC ?_ _ _ | refine le_drew ?_ | assumption | (refine Nat.le_of_lt ?_; omega) | omega)))))).mono ?_; rw [HO.out]; rintro e w3 ⟨u0, u1, F3, rfl, hx3, hS3, hN3, hF3⟩; obtain ⟨A3, c3, rfl, rfl, _⟩ := sRel_form hS3; have T3 : BoxAt w3 wr.heap.size #[.string x.1, .slice A1 x.2.length c1] := (by repeat (with_reducible (first | assumption | exact BoxAt.new _ _ _ | apply BoxAt.set2 | refine BoxAt.set2' ?_ (by omega) | apply BoxAt.setP0 | apply BoxAt.setP1 | refine BoxAt.setO ?_ (by omega) | refine BoxAt.alloc ?_ _ | refine BoxAt.drew ?_ | refine BoxAt.toExt ?_ (by assumption)))); obtain ⟨lt3, t30, t31, ft3⟩ := bx2 T3; simp only [Option.getD_some] at *)
              exact ⟨⟨k + 1, by go_num, by omega, (by refine Chg.isExt (F := []) ?_ (refl_ext _) (by simp); repeat (with_reducible (first | exact Chg.refl _ _ | exact Nat.le_refl _ | exact Chg.ofExt (by assumption) | refine Chg.trans0 ?_ (by assumption) | refine Chg.extS ?_ _ | refine Chg.alloc ?_ _ | refine Chg.drew ?_ | refine Chg.setCellE ?_ ?_ _ | refine le_addk ?_ _ | refine le_ext ?_ | refine le_alloc ?_ _ | refine le_setC ?_ _ _ | refine le_drew ?_ | assumption | (refine Nat.le_of_lt ?_; omega) | omega))), HK⟩, by simp [intOf]; omega⟩
            · rw [show fitO (some r) x.2.length = false from decide_eq_false hr] at e
              have HF := Lib.hid (show q.2.1.all (atFit d) = false by rw [← e]; rfl)
              have hne : (r.1 != (x.2.length : Int)) = true := by simpa using hr
              clear e hr
              go_wp2_with (go_at_call 103; refine (LookupRelation_any HD.out (h1.toExt (trans_ext hyw (by refine Chg.isExt (F := []) ?_ (refl_ext _) (by simp); repeat (with_reducible (first | exact Chg.refl _ _ | exact Nat.le_refl _ | exact Chg.ofExt (by assumption) | refine Chg.trans0 ?_ (by assumption) | refine Chg.extS ?_ _ | refine Chg.alloc ?_ _ | refine Chg.drew ?_ | refine Chg.setCellE ?_ ?_ _ | refine le_addk ?_ _ | refine le_ext ?_ | refine le_alloc ?_ _ | refine le_setC ?_ _ _ | refine le_drew ?_ | assumption | (refine Nat.le_of_lt ?_; omega) | omega)))))).mono ?_; rw [HO.out]; rintro e w3 ⟨u0, u1, F3, rfl, hx3, hS3, hN3, hF3⟩; obtain ⟨A3, c3, rfl, rfl, _⟩ := sRel_form hS3; have T3 : BoxAt w3 wr.heap.size #[.string x.1, .slice A1 x.2.length c1] := (by repeat (with_reducible (first | assumption | exact BoxAt.new _ _ _ | apply BoxAt.set2 | refine BoxAt.set2' ?_ (by omega) | apply BoxAt.setP0 | apply BoxAt.setP1 | refine BoxAt.setO ?_ (by omega) | refine BoxAt.alloc ?_ _ | refine BoxAt.drew ?_ | refine BoxAt.toExt ?_ (by assumption)))); obtain ⟨lt3, t30, t31, ft3⟩ := bx2 T3; simp only [Option.getD_some] at *)
              go_ret
              exact ⟨by rw [HE2.out, HF.out]; rfl, (by refine Chg.isExt (F := []) ?_ (refl_ext _) (by simp); repeat (with_reducible (first | exact Chg.refl _ _ | exact Nat.le_refl _ | exact Chg.ofExt (by assumption) | refine Chg.trans0 ?_ (by assumption) | refine Chg.extS ?_ _ | refine Chg.alloc ?_ _ | refine Chg.drew ?_ | refine Chg.setCellE ?_ ?_ _ | refine le_addk ?_ _ | refine le_ext ?_ | refine le_alloc ?_ _ | refine le_setC ?_ _ _ | refine le_drew ?_ | assumption | (refine Nat.le_of_lt ?_; omega) | omega)))⟩
        · have e := Hj.out
          rw [fitL_end hlt] at e
          have HK := Lib.hid (show iqfB d q = true by rw [HE2.out, ← e])
          clear e Hj
          go_wp2
          go_ret
          exact ⟨by rw [HK.out]; rfl, hyw⟩
set_option maxRecDepth 100000 in
set_option maxHeartbeats 16000000 in
theorem specIsQueryFor_any {A B C : Option Addr} {c e g : Nat} {d : Dbd} {q : Qd} {w : World} (hd : WDb d) (h1 : RV 3 vTb w A d) (hb : BQ q) (h2 : vQ w [.int .i64 q.1, .slice B q.2.1.length e, .slice C q.2.2.length g] q) :
    Calls Try.prog 39 #[.agg #[.slice A d.length c], .agg #[.int .i64 q.1, .slice B q.2.1.length e, .slice C q.2.2.length g]] w fun e w' => e = .returned (.bool (iqfB d q)) ∧ ∃ y, w' = ext w y := by
  have HD := Lib.hid hd
  have HB := Lib.hid hb
  have HV := Lib.hid h2
  have h3 := (vAts_get (vQ_get h2).1).2
  have hal := hb.2.1.1
  obtain ⟨t1, ht1⟩ : ∃ t, vqB q = t := ⟨_, rfl⟩
  obtain ⟨t2, ht2⟩ : ∃ t, dbB d = t := ⟨_, rfl⟩
  have HT1 := Lib.hid ht1
  have HT2 := Lib.hid ht2
  have HE := Lib.hid (show iqfB d q = (t1 && t2 && q.2.1.all (atFit d)) by unfold iqfB; rw [ht1, ht2])
  have HF := Lib.hid (fun (h : q.2.1.all (atFit d) = false) => show iqfB d q = false by unfold iqfB; rw [h, Bool.and_false])
  clear hd hb h2 ht1 ht2
  go_enter Try.func39, Try.ntmps39
  go_upto_region 1 with fail
  refine wp_name ?_
  intro W hW
  have xW : ∃ y, W = ext w y := by rw [hW.out]; exact (by refine Chg.isExt (F := []) ?_ (refl_ext _) (by simp); repeat (with_reducible (first | exact Chg.refl _ _ | exact Nat.le_refl _ | exact Chg.ofExt (by assumption) | refine Chg.trans0 ?_ (by assumption) | refine Chg.extS ?_ _ | refine Chg.alloc ?_ _ | refine Chg.drew ?_ | refine Chg.setCellE ?_ ?_ _ | refine le_addk ?_ _ | refine le_ext ?_ | refine le_alloc ?_ _ | refine le_setC ?_ _ _ | refine le_drew ?_ | assumption | (refine Nat.le_of_lt ?_; omega) | omega)))
  have PW : BoxAt W w.heap.size #[.slice A d.length c] := by rw [hW.out]; exact (by repeat (with_reducible (first | assumption | exact BoxAt.new _ _ _ | apply BoxAt.set10 | apply BoxAt.set2 | refine BoxAt.set2' ?_ (by omega) | apply BoxAt.setP0 | apply BoxAt.setP1 | refine BoxAt.setO ?_ (by omega) | refine BoxAt.alloc ?_ _ | refine BoxAt.drew ?_ | refine BoxAt.toExt ?_ (by assumption))))
  have QW : BoxAt W (w.heap.size + 1) #[.int .i64 q.1, .slice B q.2.1.length e, .slice C q.2.2.length g] := by
    rw [hW.out]
    simpa using BoxAt.new (w.alloc (.cells #[.slice A d.length c] 45)) #[.int .i64 q.1, .slice B q.2.1.length e, .slice C q.2.2.length g] 66
  clear hW
  go_wp2_with fail
  go_loopw [5] (fun i wr => ∃ k : Nat, i = .int .i64 k ∧ k ≤ q.2.1.length ∧ (∃ y, wr = ext W y) ∧ Hid ((q.2.1.drop k).all (atFit d) = q.2.1.all (atFit d))) (fun i _ => q.2.1.length - (intOf i).toNat)
  case atStart => exact ⟨0, rfl, by omega, refl_ext W, Lib.hid (by simp)⟩
  case round =>
    obtain ⟨k, rfl, hk, hy, Hj⟩ := hrel
    have hyw := trans_ext xW hy
    have P3 := PW.toExt hy
    have Q3 := QW.toExt hy
    obtain ⟨lp3, p30, fp3⟩ := bx1 P3
    obtain ⟨lq3, q30, q31, q32, fq3⟩ := box3 Q3
    by_cases hlt : k < q.2.1.length
    · obtain ⟨b, o, A1, c1, rfl, hbb, hc, hc1, hv⟩ := (h3.toExt hyw).atA hlt
      have e := Hj.out
      rw [fitL_step hlt] at e
      obtain ⟨x, hx⟩ : ∃ x, q.2.1[k] = x := ⟨_, rfl⟩
      rw [hx] at e hc hc1 hv
      obtain ⟨o, ho⟩ : ∃ o, lookD d x.1 = o := ⟨_, rfl⟩
      have HO := Lib.hid ho
      rw [atFit_look ho] at e
      clear hx ho hv
      go_upto_region 4 with fail
      go_cut [6, 7] (CutR o wr)
      case first =>
        go_region_held3 (fun w' => (∀ a : Addr, a.block < wr.heap.size → w'.cell? a = wr.cell? a) ∧ ∃ y, w' = ext wr y) (first | exact heldE (by refine Chg.isExt (F := []) ?_ (refl_ext _) (by simp); repeat (with_reducible (first | exact Chg.refl _ _ | exact Nat.le_refl _ | exact Chg.ofExt (by assumption) | refine Chg.trans0 ?_ (by assumption) | refine Chg.extS ?_ _ | refine Chg.alloc ?_ _ | refine Chg.drew ?_ | refine Chg.setCellE ?_ ?_ _ | refine le_addk ?_ _ | refine le_ext ?_ | refine le_alloc ?_ _ | refine le_setC ?_ _ _ | refine le_drew ?_ | assumption | (refine Nat.le_of_lt ?_; omega) | omega)))) ((go_at_call 99; refine (specLookupRelation_any HD.out (h1.toExt (trans_ext hyw (by refine Chg.isExt (F := []) ?_ (refl_ext _) (by simp); repeat (with_reducible (first | exact Chg.refl _ _ | exact Nat.le_refl _ | exact Chg.ofExt (by assumption) | refine Chg.trans0 ?_ (by assumption) | refine Chg.extS ?_ _ | refine Chg.alloc ?_ _ | refine Chg.drew ?_ | refine Chg.setCellE ?_ ?_ _ | refine le_addk ?_ _ | refine le_ext ?_ | refine le_alloc ?_ _ | refine le_setC ?_ _ _ | refine le_drew ?_ | assumption | (refine Nat.le_of_lt ?_; omega) | omega)))))).mono ?_; rw [HO.out]; rintro e w3 ⟨u0, u1, F3, rfl, hx3, hS3, hN3, hF3⟩; obtain ⟨A3, c3, rfl, rfl, hI3⟩ := sRel_form hS3; (first | (have L3 : BoxAt w3 wr.heap.size #[.int .i64 0, .slice none 0 0] := BoxAt.toExt (BoxAt.new wr _ _) hx3; obtain ⟨z1, z2, z3, z4⟩ := bx2 L3) | (have L3 : BoxAt w3 wr.heap.size #[.int .i64 0, .slice none 0 0] := BoxAt.toExt (BoxAt.new wr.drew _ _) hx3; obtain ⟨z1, z2, z3, z4⟩ := bx2 L3) | (have L3 : BoxAt w3 wr.heap.size #[.int .i64 0, .slice none 0 0] := BoxAt.toExt (BoxAt.new wr _ _).drew hx3; obtain ⟨z1, z2, z3, z4⟩ := bx2 L3) | skip)))
        all_goals
          go_wp2_with fail
          go_meet
          have hz3 := size_of_ext hx3
          (first | simp only [World.size_alloc, World.drew] at hz3 hF3 | simp only [World.drew] at hz3 hF3)
          first
            | exact ⟨w3.heap.size, A3, c3, rfl, rfl, BoxAt.new _ _ _, (vII_get (sII_v _ _ _ (OD.toExt hI3 (alloc_ext _ _)))).2, by omega, (by refine Chg.isExt (F := []) ?_ (refl_ext _) (by simp); repeat (with_reducible (first | exact Chg.refl _ _ | exact Nat.le_refl _ | exact Chg.ofExt (by assumption) | refine Chg.trans0 ?_ (by assumption) | refine Chg.extS ?_ _ | refine Chg.alloc ?_ _ | refine Chg.drew ?_ | refine Chg.setCellE ?_ ?_ _ | refine le_addk ?_ _ | refine le_ext ?_ | refine le_alloc ?_ _ | refine le_setC ?_ _ _ | refine le_drew ?_ | assumption | (refine Nat.le_of_lt ?_; omega) | omega)))⟩
            | exact ⟨wr.heap.size, A3, c3, rfl, rfl, (by repeat (with_reducible (first | assumption | exact BoxAt.new _ _ _ | apply BoxAt.set2 | refine BoxAt.set2' ?_ (by omega) | apply BoxAt.setP0 | apply BoxAt.setP1 | refine BoxAt.setO ?_ (by omega) | refine BoxAt.alloc ?_ _ | refine BoxAt.drew ?_ | refine BoxAt.toExt ?_ (by assumption)))), (vII_get (sII_v _ _ _ (OD.chg (G := [wr.heap.size]) hI3 (by repeat (with_reducible (first | exact Chg.refl _ _ | refine Chg.trans0 ?_ (by assumption) | refine Chg.extS ?_ _ | refine Chg.alloc ?_ _ | refine Chg.drew ?_ | refine Chg.setCell ?_ (.inl (by simp)) _))) (fun x hx hm => by have := hF3 x hx; rw [List.mem_singleton.1 hm] at this; omega)))).2, by omega, (by refine Chg.isExt (F := []) ?_ (refl_ext _) (by simp); repeat (with_reducible (first | exact Chg.refl _ _ | exact Nat.le_refl _ | exact Chg.ofExt (by assumption) | refine Chg.trans0 ?_ (by assumption) | refine Chg.extS ?_ _ | refine Chg.alloc ?_ _ | refine Chg.drew ?_ | refine Chg.setCellE ?_ ?_ _ | refine le_addk ?_ _ | refine le_ext ?_ | refine le_alloc ?_ _ | refine le_setC ?_ _ _ | refine le_drew ?_ | assumption | (refine Nat.le_of_lt ?_; omega) | omega)))⟩
      obtain ⟨bX, A3, c3, rfl, rfl, BX, hvX, hbX, hxX⟩ := hcut
      obtain ⟨w4, rfl⟩ : ∃ W, W = wc := ⟨_, rfl⟩
      have hyw4 := trans_ext hyw hxX
      have hc4 := cellW hxX hbb hc
      have hc14 := cellW hxX hbb hc1
      have hb4 := ltW hxX hbb
      obtain ⟨lq4, q40, q41, q42, fq4⟩ := box3 (Q3.toExt hxX)
      obtain ⟨lx4, x40, x41, fx4⟩ := bx2 BX
      clear lq3 q30 q31 q32 fq3 lp3 p30 fp3 hc hc1 hbb
      cases o with
      | none =>
        have HF2 := Lib.hid (HF.out (by rw [← e]; rfl))
        clear e
        go_wp2_with fail
        refine wp_region_ext (by kernel_rfl) (by kernel_rfl) ?_
        repeat (go_big_quiet_step (fail))
        refine wpQuiet_nil ?_
        rintro _ ⟨zz, rfl⟩
        go_wp2
        go_ret
        exact ⟨by rw [HF2.out]; rfl, trans_ext hyw4 ⟨_, rfl⟩⟩
      | some r =>
        simp only [Option.getD_some] at x40 x41
        by_cases hr : r.1 = (x.2.length : Int)
        · rw [show fitO (some r) x.2.length = true from decide_eq_true hr] at e
          have HK := Lib.hid (show (q.2.1.drop (k + 1)).all (atFit d) = q.2.1.all (atFit d) by rw [← e]; rfl)
          have hne : (r.1 != (x.2.length : Int)) = false := by simpa using hr
          clear e hr
          go_wp2_with fail
          refine wp_region_ext (by kernel_rfl) (by kernel_rfl) ?_
          repeat (go_big_quiet_step (fail))
          refine wpQuiet_nil ?_
          rintro _ ⟨zz, rfl⟩
          go_wp2
          exact ⟨⟨k + 1, by go_num, by omega, trans_ext (trans_ext hy hxX) ⟨_, rfl⟩, HK⟩, by simp [intOf]; omega⟩
        · rw [show fitO (some r) x.2.length = false from decide_eq_false hr] at e
          have HF2 := Lib.hid (HF.out (by rw [← e]; rfl))
          have hne : (r.1 != (x.2.length : Int)) = true := by simpa using hr
          clear e hr
          go_wp2_with fail
          refine wp_region_ext (by kernel_rfl) (by kernel_rfl) ?_
          repeat (go_big_quiet_step (fail))
          refine wpQuiet_nil ?_
          rintro _ ⟨zz, rfl⟩
          go_wp2
          go_ret
          exact ⟨by rw [HF2.out]; rfl, trans_ext hyw4 ⟨_, rfl⟩⟩
    · have e := Hj.out
      rw [fitL_end hlt] at e
      have HK := Lib.hid (show iqfB d q = (t1 && t2) by rw [HE.out, ← e, Bool.and_true])
      clear e Hj
      cases t1 with
      | false =>
        go_wp2_with (go_at_call 100; refine (specIsValidQuery_any HB.out (VD.toExt HV.out hyw)).mono ?_; rintro e w1 ⟨rfl, hx1⟩; rw [HT1.out])
        go_ret
        exact ⟨by rw [HK.out]; rfl, trans_ext hyw hx1⟩
      | true =>
        cases t2
        all_goals
          go_wp2_with (first
            | (go_at_call 100; refine (specIsValidQuery_any HB.out (VD.toExt HV.out hyw)).mono ?_; rintro e w1 ⟨rfl, hx1⟩; rw [HT1.out]; obtain ⟨lp1, p10, fp1⟩ := bx1 (P3.toExt hx1))
            | (go_at_call 79; refine (specIsValidDatabase_w HD.out (h1.toExt (trans_ext hyw hx1))).mono ?_; rintro e w2 ⟨rfl, hx2⟩; rw [HT2.out]))
          go_ret
          exact ⟨by rw [HK.out]; rfl, trans_ext hyw (trans_ext hx1 hx2)⟩
end Go.Proofs.Ytgoleefkbjjidaa

/- What is known of a query that fits a database. No program in it. -/
namespace Go.Proofs.Ytgoleefkbjjidaa
open Go.RowKit
theorem qok {d : Dbd} {q : Qd} (h : iqfB d q = true) : QOk d q := by
  unfold iqfB at h
  simp only [Bool.and_eq_true] at h
  obtain ⟨⟨h1, h2⟩, h3⟩ := h
  obtain ⟨v1, v2, v3⟩ := vqB_vars h1
  have h4 := h1
  unfold vqB at h4
  simp only [Bool.and_eq_true] at h4
  obtain ⟨⟨⟨⟨_, k2⟩, k3⟩, _⟩, k5⟩ := h4
  have b2 := inB_t k2
  have k3 := (setB_sound k3).1
  refine ⟨v1, v2, h2, by omega, by omega, fun a ha => (List.all_eq_true.1 h3) a ha, v3, fun v h0 hl => ?_, fun v hv => by have := k3 v hv; omega⟩
  unfold coverB mkU at k5
  rw [List.all_eq_true] at k5
  have := k5 (decide ((v.toNat : Int) ∈ seen q.2.1)) (List.mem_map.2 ⟨v.toNat, List.mem_range.2 (by omega), rfl⟩)
  have := of_decide_eq_true this
  rw [Int.toNat_of_nonneg h0] at this
  unfold seen at this
  obtain ⟨a, ha, hv⟩ := List.mem_flatMap.1 this
  exact ⟨a, ha, hv⟩
theorem atFit_get {d : Dbd} {a : At} (h : atFit d a = true) : lookD d a.1 = some (relOf d a) := by
  unfold atFit at h
  unfold relOf
  cases e : lookD d a.1 with
  | none => rw [e] at h; cases h
  | some r => rfl
end Go.Proofs.Ytgoleefkbjjidaa

/- Relations made of rows by the reference; rows found in relations; relations projected: the program's way and the reference's. -/
namespace Go.Proofs.Ytgoleefkbjjidaa
open Go.RowKit

set_option maxRecDepth 100000 in
set_option maxHeartbeats 8000000 in
theorem specNewRelation_any {a : Int} {A : Option Addr} {c : Nat} {rows : List (List Int)} {w : World} (ha : I64 a) (hx : rows.length ≤ 1000000000) (hcap : rows.length ≤ c) (hxl : ∀ x ∈ rows, x.length ≤ 1000000000) (h1 : RII w A rows) :
    Calls Try.prog 76 #[.int .i64 a, .slice A rows.length c] w (RelOut (newR a rows) w) := by
  obtain ⟨ha1, ha2⟩ := ha
  have Hxl := Lib.hid hxl
  clear hxl
  go_enter Try.func76, Try.ntmps76
  go_upto_region 1 with fail
  refine wp_name ?_
  intro W hW
  have xW : ∃ y, W = ext w y := by rw [hW.out]; exact (by refine Chg.isExt (F := []) ?_ (refl_ext _) (by simp); repeat (with_reducible (first | exact Chg.refl _ _ | exact Nat.le_refl _ | exact Chg.ofExt (by assumption) | refine Chg.trans0 ?_ (by assumption) | refine Chg.extS ?_ _ | refine Chg.alloc ?_ _ | refine Chg.drew ?_ | refine Chg.setCellE ?_ ?_ _ | refine le_addk ?_ _ | refine le_ext ?_ | refine le_alloc ?_ _ | refine le_setC ?_ _ _ | refine le_drew ?_ | assumption | (refine Nat.le_of_lt ?_; omega) | omega)))
  have RW : BoxAt W w.heap.size #[.int .i64 0, .slice none 0 0] := by rw [hW.out]; exact (by repeat (with_reducible (first | assumption | exact BoxAt.new _ _ _ | apply BoxAt.set2 | refine BoxAt.set2' ?_ (by omega) | apply BoxAt.setP0 | apply BoxAt.setP1 | refine BoxAt.setO ?_ (by omega) | refine BoxAt.alloc ?_ _ | refine BoxAt.drew ?_ | refine BoxAt.toExt ?_ (by assumption))))
  clear hW
  go_wp2_with fail
  go_loopw [6] (fun i wr => ∃ k : Nat, i = .int .i64 k ∧ k ≤ rows.length ∧ Hid (rowsIn a (rows.drop k) = rowsIn a rows) ∧ ∃ y, wr = ext W y) (fun i _ => rows.length - (intOf i).toNat)
  case atStart => exact ⟨0, rfl, by omega, Lib.hid (by simp), refl_ext W⟩
  case round =>
    obtain ⟨k, rfl, hk, Hj, hy⟩ := hrel
    have hyw := trans_ext xW hy
    obtain ⟨l1, a1, a1', f1⟩ := bx2 (RW.toExt hy)
    by_cases hlt : k < rows.length
    · obtain ⟨b, o, A1, c1, rfl, hb, hc, hv⟩ := (h1.toExt hyw).atV hlt
      have lx := Hxl.out rows[k] (List.getElem_mem hlt)
      have e := Hj.out
      rw [rowsIn_step hlt] at e
      obtain ⟨x, hx1⟩ : ∃ x, rows[k] = x := ⟨_, rfl⟩
      rw [hx1] at hc hv lx e
      unfold okRow at e
      obtain ⟨t1, ht1⟩ : ∃ t, decide ((x.length : Int) = a) = t := ⟨_, rfl⟩
      obtain ⟨t2, ht2⟩ : ∃ t, rowV x = t := ⟨_, rfl⟩
      have hq : ((x.length : Int) != a) = !t1 := by rw [← ht1]; by_cases q : (x.length : Int) = a <;> simp [q]
      rw [ht1, ht2] at e
      have T2 := Lib.hid ht2
      have He := Lib.hid e
      clear e ht1 ht2 hx1
      cases t1
      · have HZ := Lib.hid (newR_bad (a := a) (rows := rows) (by rw [← He.out]; rfl))
        go_wp2
        refine bodyPost_ret (v := .tuple #[.agg #[.int .i64 0, .slice none 0 0], .bool false]) (by simp [results, Try.results76, go_sem, *]) rfl (relOut_none HZ.out rfl (by refine Chg.isExt (F := []) ?_ (refl_ext _) (by simp); repeat (with_reducible (first | exact Chg.refl _ _ | exact Nat.le_refl _ | exact Chg.ofExt (by assumption) | refine Chg.trans0 ?_ (by assumption) | refine Chg.extS ?_ _ | refine Chg.alloc ?_ _ | refine Chg.drew ?_ | refine Chg.setCellE ?_ ?_ _ | refine le_addk ?_ _ | refine le_ext ?_ | refine le_alloc ?_ _ | refine le_setC ?_ _ _ | refine le_drew ?_ | assumption | (refine Nat.le_of_lt ?_; omega) | omega))))
      · cases t2
        · have HZ := Lib.hid (newR_bad (a := a) (rows := rows) (by rw [← He.out]; rfl))
          go_wp2_with (go_at_call 121; refine (specAreValidValues_any lx hv).mono ?_; rintro e w1 ⟨rfl, rfl⟩; rw [T2.out])
          refine bodyPost_ret (v := .tuple #[.agg #[.int .i64 0, .slice none 0 0], .bool false]) (by simp [results, Try.results76, go_sem, *]) rfl (relOut_none HZ.out rfl (by refine Chg.isExt (F := []) ?_ (refl_ext _) (by simp); repeat (with_reducible (first | exact Chg.refl _ _ | exact Nat.le_refl _ | exact Chg.ofExt (by assumption) | refine Chg.trans0 ?_ (by assumption) | refine Chg.extS ?_ _ | refine Chg.alloc ?_ _ | refine Chg.drew ?_ | refine Chg.setCellE ?_ ?_ _ | refine le_addk ?_ _ | refine le_ext ?_ | refine le_alloc ?_ _ | refine le_setC ?_ _ _ | refine le_drew ?_ | assumption | (refine Nat.le_of_lt ?_; omega) | omega))))
        · go_wp2_with (go_at_call 121; refine (specAreValidValues_any lx hv).mono ?_; rintro e w1 ⟨rfl, rfl⟩; rw [T2.out])
          exact ⟨⟨k + 1, by go_num, by omega, Lib.hid (by simpa using He.out), (by refine Chg.isExt (F := []) ?_ (refl_ext _) (by simp); repeat (with_reducible (first | exact Chg.refl _ _ | exact Nat.le_refl _ | exact Chg.ofExt (by assumption) | refine Chg.trans0 ?_ (by assumption) | refine Chg.extS ?_ _ | refine Chg.alloc ?_ _ | refine Chg.drew ?_ | refine Chg.setCellE ?_ ?_ _ | refine le_addk ?_ _ | refine le_ext ?_ | refine le_alloc ?_ _ | refine le_setC ?_ _ _ | refine le_drew ?_ | assumption | (refine Nat.le_of_lt ?_; omega) | omega)))⟩, by simp [intOf]; omega⟩
    · have HRI := Lib.hid (show rowsIn a rows = true by rw [← Hj.out, rowsIn_end hlt])
      have RB := RW.toExt hy
      have hz0 := RB.1
      clear l1 a1 a1' f1
      go_wp2_with fail
      refine (l5Sort_any rows.length A c rows wr (Nat.le_refl _) hx hcap Hxl.out (h1.toExt hyw)).mono ?_
      rintro e w1 ⟨A1, c1, rfl, hc1, rv1, hx1⟩
      have hsl := sortR_length rows
      have Hsl := Lib.hid (fun x (hx : x ∈ sortR rows) => Hxl.out x (mem_sortR.1 hx))
      have HNR := Lib.hid (newR_eq HRI.out)
      obtain ⟨sr, hsr⟩ : ∃ s, sortR rows = s := ⟨_, rfl⟩
      rw [hsr] at rv1 hsl Hsl HNR hc1 ⊢
      clear hsr
      have hs1x : sr.length ≤ 1000000000 := by omega
      go_wp2_with fail
      refine (l5Copy_any (z := a) hs1x Hsl.out rv1).mono ?_
      rintro e w1' ⟨u0, u1, F1, rfl, hx1', hS1, hN1, hF1⟩
      obtain ⟨A2, c2, rfl, rfl, hS2⟩ := sRel_form hS1
      have rv2 := (vII_get (sII_v _ _ _ hS2)).2
      have RB1 := RB.toExt (trans_ext hx1 hx1')
      have hzc := size_of_ext hx1
      go_upto_region 7 with fail
      refine wp_name ?_
      intro w2 hw2
      have hx2 : ∃ y, w2 = ext w1' y := by rw [hw2.out]; exact (by refine Chg.isExt (F := []) ?_ (refl_ext _) (by simp); repeat (with_reducible (first | exact Chg.refl _ _ | exact Nat.le_refl _ | exact Chg.ofExt (by assumption) | refine Chg.trans0 ?_ (by assumption) | refine Chg.extS ?_ _ | refine Chg.alloc ?_ _ | refine Chg.drew ?_ | refine Chg.setCellE ?_ ?_ _ | refine le_addk ?_ _ | refine le_ext ?_ | refine le_alloc ?_ _ | refine le_setC ?_ _ _ | refine le_drew ?_ | assumption | (refine Nat.le_of_lt ?_; omega) | omega)))
      have X2 : BoxAt w2 w1'.heap.size #[.int .i64 a, .slice A2 sr.length c2] := by rw [hw2.out]; exact (by repeat (with_reducible (first | assumption | exact BoxAt.new _ _ _ | apply BoxAt.set2 | refine BoxAt.set2' ?_ (by omega) | apply BoxAt.setP0 | apply BoxAt.setP1 | refine BoxAt.setO ?_ (by omega) | refine BoxAt.alloc ?_ _ | refine BoxAt.drew ?_ | refine BoxAt.toExt ?_ (by assumption))))
      have R2 := RB1.toExt hx2
      have rv3 := rv2.toExt hx2
      have hz1 : w.heap.size < w1'.heap.size := RB1.1
      clear hw2
      obtain ⟨l1, a1, a1', f1⟩ := bx2 X2
      obtain ⟨l2, a2, a2', f2⟩ := bx2 R2
      obtain ⟨t, ht⟩ : ∃ t, rowsB a sr = t := ⟨_, rfl⟩
      have HT := Lib.hid ht
      rw [ht] at HNR
      have HS1 := Lib.hid (OD.toExt hS2 hx2)
      have HN1 := Lib.hid hN1
      have HF1 := Lib.hid hF1
      have hxw : ∃ y, w2 = ext w y := trans_ext hyw (trans_ext hx1 (trans_ext hx1' hx2))
      have hzw := size_of_ext hyw
      clear ht hS1 hS2 hN1 hF1
      cases t
      · have HZ := Lib.hid (show newR a rows = none by rw [HNR.out]; rfl)
        go_wp2_with (go_at_call 118; refine (specIsValidRelation_w hs1x Hsl.out rv3).mono ?_; rintro e w3 ⟨rfl, hx3⟩; rw [HT.out]; obtain ⟨l3, a3, a3', f3⟩ := bx2 (R2.toExt hx3))
        refine bodyPost_ret (v := .tuple #[.agg #[.int .i64 0, .slice none 0 0], .bool false]) (by simp [results, Try.results76, go_sem, *]) rfl (relOut_none HZ.out rfl (by refine Chg.isExt (F := []) ?_ (refl_ext _) (by simp); repeat (with_reducible (first | exact Chg.refl _ _ | exact Nat.le_refl _ | exact Chg.ofExt (by assumption) | refine Chg.trans0 ?_ (by assumption) | refine Chg.extS ?_ _ | refine Chg.alloc ?_ _ | refine Chg.drew ?_ | refine Chg.setCellE ?_ ?_ _ | refine le_addk ?_ _ | refine le_ext ?_ | refine le_alloc ?_ _ | refine le_setC ?_ _ _ | refine le_drew ?_ | assumption | (refine Nat.le_of_lt ?_; omega) | omega))))
      · have HZ := Lib.hid (show newR a rows = some (a, sr) by rw [HNR.out]; rfl)
        go_wp2_with (go_at_call 118; refine (specIsValidRelation_w hs1x Hsl.out rv3).mono ?_; rintro e w3 ⟨rfl, hx3⟩; rw [HT.out]; obtain ⟨l3, a3, a3', f3⟩ := bx2 (R2.toExt hx3); obtain ⟨l4, a4, a4', f4⟩ := bx2 (X2.toExt hx3))
        refine bodyPost_ret (v := .tuple #[.agg #[.int .i64 a, .slice A2 sr.length c2], .bool true]) (by simp [results, Try.results76, go_sem, *]) rfl ⟨_, _, F1, by rw [HZ.out]; rfl, (by refine Chg.isExt (F := []) ?_ (refl_ext _) (by simp); repeat (with_reducible (first | exact Chg.refl _ _ | exact Nat.le_refl _ | exact Chg.ofExt (by assumption) | refine Chg.trans0 ?_ (by assumption) | refine Chg.extS ?_ _ | refine Chg.alloc ?_ _ | refine Chg.drew ?_ | refine Chg.setCellE ?_ ?_ _ | refine le_addk ?_ _ | refine le_ext ?_ | refine le_alloc ?_ _ | refine le_setC ?_ _ _ | refine le_drew ?_ | assumption | (refine Nat.le_of_lt ?_; omega) | omega))), ?_, HN1.out, fun b hb => ?_⟩
        · rw [HZ.out]
          refine sRel_mk (OD.chg (E := sII) (G := [w.heap.size]) (OD.toExt HS1.out hx3) (by repeat (with_reducible (first | exact Chg.refl _ _ | refine Chg.trans0 ?_ (by assumption) | refine Chg.extS ?_ _ | refine Chg.alloc ?_ _ | refine Chg.drew ?_ | refine Chg.setCell ?_ (.inl (by simp)) _))) ?_)
          intro b hb h
          have := HF1.out b hb
          rw [List.mem_singleton.1 h] at this
          omega
        · have := HF1.out b hb
          omega
theorem conB {a : Int} {rows : List (List Int)} {row : List Int} {b t : Bool} (h : AscR rows → b = decide (row ∈ rows)) (ht : rowsB a rows = t) : (t && b) = (rowsB a rows && decide (row ∈ rows)) := by
  rw [ht]
  cases t with
  | false => rfl
  | true => rw [h (rowsB_iff.1 ht).2.2.2.2]
set_option maxHeartbeats 1000000 in
theorem ContainsRow_any {a : Int} {A A' : Option Addr} {c c' : Nat} {rows : List (List Int)} {row : List Int} {w : World} (hx : rows.length ≤ 1000000000) (hxl : ∀ x ∈ rows, x.length ≤ 1000000000) (h1 : RII w A rows) (hr : row.length ≤ 1000000000) (h2 : RI w A' row) :
    Calls Try.prog 106 #[.agg #[.int .i64 a, .slice A rows.length c], .slice A' row.length c'] w fun e w' => e = .returned (.bool (rowsB a rows && decide (row ∈ rows))) ∧ ∃ y, w' = ext w y := by
  have Hxl := Lib.hid hxl
  obtain ⟨t, ht⟩ : ∃ t, rowsB a rows = t := ⟨_, rfl⟩
  have HT := Lib.hid ht
  clear hxl ht
  go_enter Try.func106, Try.ntmps106
  go_upto_region 1 with fail
  refine wp_name ?_
  intro W hW
  have xW : ∃ y, W = ext w y := by rw [hW.out]; exact (by refine Chg.isExt (F := []) ?_ (refl_ext _) (by simp); repeat (with_reducible (first | exact Chg.refl _ _ | exact Nat.le_refl _ | exact Chg.ofExt (by assumption) | refine Chg.trans0 ?_ (by assumption) | refine Chg.extS ?_ _ | refine Chg.alloc ?_ _ | refine Chg.drew ?_ | refine Chg.setCellE ?_ ?_ _ | refine le_addk ?_ _ | refine le_ext ?_ | refine le_alloc ?_ _ | refine le_setC ?_ _ _ | refine le_drew ?_ | assumption | (refine Nat.le_of_lt ?_; omega) | omega)))
  have BW0 : BoxAt W (w.heap.size) #[.int .i64 a, .slice A rows.length c] := by rw [hW.out]; refine ⟨?_, fun j => ?_, fun j => ?_⟩ <;> go_simp
  obtain ⟨lW0, bW0, fW0⟩ := BW0
  have cW0_0 : W.cell? ⟨w.heap.size, 0, none⟩ = some (.int .i64 a) := bW0 0
  have cW0_1 : W.cell? ⟨w.heap.size, 1, none⟩ = some (.slice A rows.length c) := bW0 1
  clear hW
  have PW : BoxAt W w.heap.size #[.int .i64 a, .slice A rows.length c] := ⟨lW0, bW0, fW0⟩
  go_wp2_with fail
  refine (place_any hx Hxl.out (h1.toExt xW) hr (h2.toExt xW)).mono ?_
  rintro e w1 ⟨k, b, rfl, _, hb, _, hx1⟩
  have HB := Lib.hid (conB hb HT.out)
  obtain ⟨l1, a1, a1', f1⟩ := bx2 (PW.toExt hx1)
  clear hb lW0 bW0 fW0 cW0_0 cW0_1
  cases t
  · go_wp2_with (go_at_call 120; refine (IsValidRelation_w hx Hxl.out (h1.toExt (trans_ext xW hx1))).mono ?_; rintro e w3 ⟨rfl, hx3⟩; rw [HT.out])
    go_ret
    exact ⟨by rw [← HB.out]; rfl, (by refine Chg.isExt (F := []) ?_ (refl_ext _) (by simp); repeat (with_reducible (first | exact Chg.refl _ _ | exact Nat.le_refl _ | exact Chg.ofExt (by assumption) | refine Chg.trans0 ?_ (by assumption) | refine Chg.extS ?_ _ | refine Chg.alloc ?_ _ | refine Chg.drew ?_ | refine Chg.setCellE ?_ ?_ _ | refine le_addk ?_ _ | refine le_ext ?_ | refine le_alloc ?_ _ | refine le_setC ?_ _ _ | refine le_drew ?_ | assumption | (refine Nat.le_of_lt ?_; omega) | omega)))⟩
  · go_wp2_with (go_at_call 120; refine (IsValidRelation_w hx Hxl.out (h1.toExt (trans_ext xW hx1))).mono ?_; rintro e w3 ⟨rfl, hx3⟩; rw [HT.out])
    go_ret
    exact ⟨by rw [← HB.out]; rfl, (by refine Chg.isExt (F := []) ?_ (refl_ext _) (by simp); repeat (with_reducible (first | exact Chg.refl _ _ | exact Nat.le_refl _ | exact Chg.ofExt (by assumption) | refine Chg.trans0 ?_ (by assumption) | refine Chg.extS ?_ _ | refine Chg.alloc ?_ _ | refine Chg.drew ?_ | refine Chg.setCellE ?_ ?_ _ | refine le_addk ?_ _ | refine le_ext ?_ | refine le_alloc ?_ _ | refine le_setC ?_ _ _ | refine le_drew ?_ | assumption | (refine Nat.le_of_lt ?_; omega) | omega)))⟩
set_option maxHeartbeats 1000000 in
theorem specContainsRow_any {a : Int} {A A' : Option Addr} {c c' : Nat} {rows : List (List Int)} {row : List Int} {w : World} (hx : rows.length ≤ 1000000000) (hxl : ∀ x ∈ rows, x.length ≤ 1000000000) (h1 : RII w A rows) (hr : row.length ≤ 1000000000) (h2 : RI w A' row) :
    Calls Try.prog 105 #[.agg #[.int .i64 a, .slice A rows.length c], .slice A' row.length c'] w fun e w' => e = .returned (.bool (rowsB a rows && decide (row ∈ rows))) ∧ ∃ y, w' = ext w y := by
  have Hxl := Lib.hid hxl
  obtain ⟨t, ht⟩ : ∃ t, rowsB a rows = t := ⟨_, rfl⟩
  have HT := Lib.hid ht
  clear hxl ht
  go_enter Try.func105, Try.ntmps105
  go_upto_region 1 with fail
  refine wp_name ?_
  intro W hW
  have xW : ∃ y, W = ext w y := by rw [hW.out]; exact (by refine Chg.isExt (F := []) ?_ (refl_ext _) (by simp); repeat (with_reducible (first | exact Chg.refl _ _ | exact Nat.le_refl _ | exact Chg.ofExt (by assumption) | refine Chg.trans0 ?_ (by assumption) | refine Chg.extS ?_ _ | refine Chg.alloc ?_ _ | refine Chg.drew ?_ | refine Chg.setCellE ?_ ?_ _ | refine le_addk ?_ _ | refine le_ext ?_ | refine le_alloc ?_ _ | refine le_setC ?_ _ _ | refine le_drew ?_ | assumption | (refine Nat.le_of_lt ?_; omega) | omega)))
  have BW0 : BoxAt W (w.heap.size) #[.int .i64 a, .slice A rows.length c] := by rw [hW.out]; refine ⟨?_, fun j => ?_, fun j => ?_⟩ <;> go_simp
  obtain ⟨lW0, bW0, fW0⟩ := BW0
  have cW0_0 : W.cell? ⟨w.heap.size, 0, none⟩ = some (.int .i64 a) := bW0 0
  have cW0_1 : W.cell? ⟨w.heap.size, 1, none⟩ = some (.slice A rows.length c) := bW0 1
  clear hW
  have PW : BoxAt W w.heap.size #[.int .i64 a, .slice A rows.length c] := ⟨lW0, bW0, fW0⟩
  cases t
  · go_wp2_with (go_at_call 118; refine (specIsValidRelation_w hx Hxl.out (h1.toExt xW)).mono ?_; rintro e w3 ⟨rfl, hx3⟩; rw [HT.out])
    go_ret
    exact ⟨by rw [HT.out]; rfl, (by refine Chg.isExt (F := []) ?_ (refl_ext _) (by simp); repeat (with_reducible (first | exact Chg.refl _ _ | exact Nat.le_refl _ | exact Chg.ofExt (by assumption) | refine Chg.trans0 ?_ (by assumption) | refine Chg.extS ?_ _ | refine Chg.alloc ?_ _ | refine Chg.drew ?_ | refine Chg.setCellE ?_ ?_ _ | refine le_addk ?_ _ | refine le_ext ?_ | refine le_alloc ?_ _ | refine le_setC ?_ _ _ | refine le_drew ?_ | assumption | (refine Nat.le_of_lt ?_; omega) | omega)))⟩
  · go_wp2_with (first
      | (go_at_call 118; refine (specIsValidRelation_w hx Hxl.out (h1.toExt xW)).mono ?_; rintro e w3 ⟨rfl, hx3⟩; rw [HT.out]; obtain ⟨l3, a3, a3', f3⟩ := bx2 (PW.toExt hx3))
      | (go_at_call 65; refine (l5Place_any hx Hxl.out (h1.toExt (trans_ext xW hx3)) hr (h2.toExt (trans_ext xW hx3))).mono ?_; rintro e w1 ⟨k, b, rfl, _, hb, _, hx1⟩; have HB := Lib.hid (conB hb HT.out); clear hb))
    go_ret
    exact ⟨by rw [← HB.out]; rfl, (by refine Chg.isExt (F := []) ?_ (refl_ext _) (by simp); repeat (with_reducible (first | exact Chg.refl _ _ | exact Nat.le_refl _ | exact Chg.ofExt (by assumption) | refine Chg.trans0 ?_ (by assumption) | refine Chg.extS ?_ _ | refine Chg.alloc ?_ _ | refine Chg.drew ?_ | refine Chg.setCellE ?_ ?_ _ | refine le_addk ?_ _ | refine le_ext ?_ | refine le_alloc ?_ _ | refine le_setC ?_ _ _ | refine le_drew ?_ | assumption | (refine Nat.le_of_lt ?_; omega) | omega)))⟩
end Go.Proofs.Ytgoleefkbjjidaa

/- Whether a row is a binding: the program's way and the reference's. -/
namespace Go.Proofs.Ytgoleefkbjjidaa
open Go.RowKit

def holdB (d : Dbd) (row : List Int) (a : At) : Bool := rowsB (relOf d a).1 (relOf d a).2 && decide (pickL row a.2 ∈ (relOf d a).2)
def isbB (d : Dbd) (q : Qd) (row : List Int) : Bool := iqfB d q && decide ((row.length : Int) = q.1) && q.2.1.all (holdB d row)
theorem holdB_eq {d : Dbd} {row : List Int} {a : At} {r : Rd} (h : relOf d a = r) : holdB d row a = (rowsB r.1 r.2 && decide (pickL row a.2 ∈ r.2)) := by
  subst h
  rfl
theorem holdL_step {d : Dbd} {row : List Int} {l : List At} {k : Nat} (h : k < l.length) : (l.drop k).all (holdB d row) = (holdB d row l[k] && (l.drop (k + 1)).all (holdB d row)) := by
  rw [List.drop_eq_getElem_cons h, List.all_cons]
theorem holdL_end {d : Dbd} {row : List Int} {l : List At} {k : Nat} (h : ¬ k < l.length) : (l.drop k).all (holdB d row) = true := by
  rw [List.drop_eq_nil_of_le (by omega)]; rfl
set_option maxRecDepth 100000 in
set_option maxHeartbeats 16000000 in
theorem IsBinding_any {A B C R : Option Addr} {c e g cr : Nat} {d : Dbd} {q : Qd} {row : List Int} {w : World} (hd : WDb d) (h1 : RV 3 vTb w A d) (hb : BQ q) (h2 : vQ w [.int .i64 q.1, .slice B q.2.1.length e, .slice C q.2.2.length g] q) (_hr : row.length ≤ 1000000000) (h4 : RI w R row) :
    Calls Try.prog 45 #[.agg #[.slice A d.length c], .agg #[.int .i64 q.1, .slice B q.2.1.length e, .slice C q.2.2.length g], .slice R row.length cr] w fun e w' => e = .returned (.bool (isbB d q row)) ∧ ∃ y, w' = ext w y := by
  have HD := Lib.hid hd
  have HB := Lib.hid hb
  have HV := Lib.hid h2
  have h3 := (vAts_get (vQ_get h2).1).2
  have hal := hb.2.1.1
  obtain ⟨t1, ht1⟩ : ∃ t, iqfB d q = t := ⟨_, rfl⟩
  obtain ⟨t2, ht2⟩ : ∃ t, decide ((row.length : Int) = q.1) = t := ⟨_, rfl⟩
  have hq2 : ((row.length : Int) != q.1) = !t2 := by rw [← ht2]; by_cases q9 : (row.length : Int) = q.1 <;> simp [q9]
  have HT1 := Lib.hid ht1
  have HE := Lib.hid (show isbB d q row = (t1 && t2 && q.2.1.all (holdB d row)) by unfold isbB; rw [ht1, ht2])
  have HQ := Lib.hid (fun (h : t1 = true) => qok (show iqfB d q = true by rw [ht1, h]))
  have HL := Lib.hid (fun (h : t2 = true) => show (row.length : Int) = q.1 from of_decide_eq_true (by rw [ht2, h]))
  have HLB : Hid (∀ x : At, x ∈ q.2.1 → x.2.length ≤ 1000000000) := Lib.hid (fun x hx => by have := (hb.2.1.each x hx).2; omega)
  clear hd hb h2 ht1 ht2
  go_enter Try.func45, Try.ntmps45
  go_upto_region 1 with fail
  refine wp_name ?_
  intro W hW
  have xW : ∃ y, W = ext w y := by rw [hW.out]; exact (by refine Chg.isExt (F := []) ?_ (refl_ext _) (by simp); repeat (with_reducible (first | exact Chg.refl _ _ | exact Nat.le_refl _ | exact Chg.ofExt (by assumption) | refine Chg.trans0 ?_ (by assumption) | refine Chg.extS ?_ _ | refine Chg.alloc ?_ _ | refine Chg.drew ?_ | refine Chg.setCellE ?_ ?_ _ | refine le_addk ?_ _ | refine le_ext ?_ | refine le_alloc ?_ _ | refine le_setC ?_ _ _ | refine le_drew ?_ | assumption | (refine Nat.le_of_lt ?_; omega) | omega)))
  have PW : BoxAt W w.heap.size #[.slice A d.length c] := by rw [hW.out]; exact (by repeat (with_reducible (first | assumption | exact BoxAt.new _ _ _ | apply BoxAt.set10 | apply BoxAt.set2 | refine BoxAt.set2' ?_ (by omega) | apply BoxAt.setP0 | apply BoxAt.setP1 | refine BoxAt.setO ?_ (by omega) | refine BoxAt.alloc ?_ _ | refine BoxAt.drew ?_ | refine BoxAt.toExt ?_ (by assumption))))
  have QW : BoxAt W (w.heap.size + 1) #[.int .i64 q.1, .slice B q.2.1.length e, .slice C q.2.2.length g] := by
    rw [hW.out]
    simpa using BoxAt.new (w.alloc (.cells #[.slice A d.length c] 45)) #[.int .i64 q.1, .slice B q.2.1.length e, .slice C q.2.2.length g] 66
  obtain ⟨lp, p0, fp⟩ := bx1 PW
  obtain ⟨lq, q0, q1, q2, fq⟩ := box3 QW
  clear hW
  cases t1 with
  | false =>
    go_wp2_with (go_at_call 41; refine (IsQueryFor_any HD.out (h1.toExt xW) HB.out (VD.toExt HV.out xW)).mono ?_; rintro e w1 ⟨rfl, hx1⟩; rw [HT1.out]; obtain ⟨lq1, q10, q11, q12, fq1⟩ := box3 (QW.toExt hx1))
    go_ret
    exact ⟨by rw [HE.out]; rfl, trans_ext xW hx1⟩
  | true =>
    cases t2 with
    | false =>
      go_wp2_with (go_at_call 41; refine (IsQueryFor_any HD.out (h1.toExt xW) HB.out (VD.toExt HV.out xW)).mono ?_; rintro e w1 ⟨rfl, hx1⟩; rw [HT1.out]; obtain ⟨lq1, q10, q11, q12, fq1⟩ := box3 (QW.toExt hx1))
      go_ret
      exact ⟨by rw [HE.out]; rfl, trans_ext xW hx1⟩
    | true =>
      have HE2 := Lib.hid (show isbB d q row = q.2.1.all (holdB d row) by rw [HE.out]; rfl)
      have HQK := Lib.hid (HQ.out (by trivial))
      have HLK := Lib.hid (HL.out (by trivial))
      go_wp2_with (go_at_call 41; refine (IsQueryFor_any HD.out (h1.toExt xW) HB.out (VD.toExt HV.out xW)).mono ?_; rintro e w1 ⟨rfl, hx1⟩; rw [HT1.out]; obtain ⟨lq1, q10, q11, q12, fq1⟩ := box3 (QW.toExt hx1))
      have P1 := PW.toExt hx1
      have xw1 := trans_ext xW hx1
      clear lp p0 fp lq q0 q1 q2 fq lq1 q10 q11 q12 fq1 PW QW
      go_loopw [25] (fun i wr => ∃ k : Nat, i = .int .i64 k ∧ k ≤ q.2.1.length ∧ (∃ y, wr = ext w1 y) ∧ Hid ((q.2.1.drop k).all (holdB d row) = q.2.1.all (holdB d row))) (fun i _ => q.2.1.length - (intOf i).toNat)
      case atStart => exact ⟨0, rfl, by omega, refl_ext w1, Lib.hid (by simp)⟩
      case round =>
        obtain ⟨k, rfl, hk, hy, Hj⟩ := hrel
        have hyw := trans_ext xw1 hy
        have P3 := P1.toExt hy
        obtain ⟨lp3, p30, fp3⟩ := bx1 P3
        by_cases hlt : k < q.2.1.length
        · obtain ⟨b, o, A1, c1, rfl, hbb, hc, hc1, hv⟩ := (h3.toExt hyw).atA hlt
          have e := Hj.out
          rw [holdL_step hlt] at e
          have hfit := HQK.out.fit _ (List.getElem_mem hlt)
          have hvars := HQK.out.vars _ (List.getElem_mem hlt)
          have hxl := HLB.out _ (List.getElem_mem hlt)
          obtain ⟨x, hx⟩ : ∃ x, q.2.1[k] = x := ⟨_, rfl⟩
          rw [hx] at e hc hc1 hv hfit hvars hxl
          have HO := Lib.hid (atFit_get hfit)
          have hrel := rowsB_iff.1 (atFit_some hfit).2.1.rel
          have HPI := Lib.hid (show ∀ v ∈ x.2, 0 ≤ v ∧ v < (row.length : Int) by rw [HLK.out]; exact hvars)
          have HRB := Lib.hid ((atFit_some hfit).2.1.rel)
          have hw9 := look_w HD.out (atFit_get hfit)
          obtain ⟨r, hr9⟩ : ∃ r, relOf d x = r := ⟨_, rfl⟩
          rw [holdB_eq hr9] at e
          rw [hr9] at HO hw9 HRB
          obtain ⟨hw9a, hw9b⟩ := hw9
          have HW9 := Lib.hid hw9b
          obtain ⟨px, hpx⟩ : ∃ p, pickL row x.2 = p := ⟨_, rfl⟩
          have hpl : px.length ≤ 1000000000 := by rw [← hpx, pickL_length]; exact hxl
          rw [hpx] at e
          have HPX := Lib.hid hpx
          have HV1 := Lib.hid hv
          obtain ⟨t, ht⟩ : ∃ t, (rowsB r.1 r.2 && decide (px ∈ r.2)) = t := ⟨_, rfl⟩
          rw [ht] at e
          have HTT := Lib.hid ht
          have He := Lib.hid e
          clear hx hv hfit hvars hrel hr9 hw9b hpx ht e
          go_upto_region 7 with (go_at_call 103; refine (LookupRelation_any HD.out (h1.toExt (trans_ext hyw (by refine Chg.isExt (F := []) ?_ (refl_ext _) (by simp); repeat (with_reducible (first | exact Chg.refl _ _ | exact Nat.le_refl _ | exact Chg.ofExt (by assumption) | refine Chg.trans0 ?_ (by assumption) | refine Chg.extS ?_ _ | refine Chg.alloc ?_ _ | refine Chg.drew ?_ | refine Chg.setCellE ?_ ?_ _ | refine le_addk ?_ _ | refine le_ext ?_ | refine le_alloc ?_ _ | refine le_setC ?_ _ _ | refine le_drew ?_ | assumption | (refine Nat.le_of_lt ?_; omega) | omega)))))).mono ?_; rw [HO.out]; rintro e w3 ⟨u0, u1, F3, rfl, hx3, hS3, hN3, hF3⟩; obtain ⟨A3, c3, rfl, rfl, hI3⟩ := sRel_form hS3; have T3 : BoxAt w3 wr.heap.size #[.string x.1, .slice A1 x.2.length c1] := (by repeat (with_reducible (first | assumption | exact BoxAt.new _ _ _ | apply BoxAt.set2 | refine BoxAt.set2' ?_ (by omega) | apply BoxAt.setP0 | apply BoxAt.setP1 | refine BoxAt.setO ?_ (by omega) | refine BoxAt.alloc ?_ _ | refine BoxAt.drew ?_ | refine BoxAt.toExt ?_ (by assumption)))))
          refine wp_name ?_
          intro w4 hw4
          have x34 : ∃ y, w4 = ext w3 y := by rw [hw4.out]; exact (by refine Chg.isExt (F := []) ?_ (refl_ext _) (by simp); repeat (with_reducible (first | exact Chg.refl _ _ | exact Nat.le_refl _ | exact Chg.ofExt (by assumption) | refine Chg.trans0 ?_ (by assumption) | refine Chg.extS ?_ _ | refine Chg.alloc ?_ _ | refine Chg.drew ?_ | refine Chg.setCellE ?_ ?_ _ | refine le_addk ?_ _ | refine le_ext ?_ | refine le_alloc ?_ _ | refine le_setC ?_ _ _ | refine le_drew ?_ | assumption | (refine Nat.le_of_lt ?_; omega) | omega)))
          have X4 : BoxAt w4 w3.heap.size #[.int .i64 r.1, .slice A3 r.2.length c3] := by rw [hw4.out]; exact (by repeat (with_reducible (first | assumption | exact BoxAt.new _ _ _ | apply BoxAt.set2 | refine BoxAt.set2' ?_ (by omega) | apply BoxAt.setP0 | apply BoxAt.setP1 | refine BoxAt.setO ?_ (by omega) | refine BoxAt.alloc ?_ _ | refine BoxAt.drew ?_ | refine BoxAt.toExt ?_ (by assumption))))
          have hy4 : ∃ y, w4 = ext wr y := (by refine Chg.isExt (F := []) ?_ (refl_ext _) (by simp); repeat (with_reducible (first | exact Chg.refl _ _ | exact Nat.le_refl _ | exact Chg.ofExt (by assumption) | refine Chg.trans0 ?_ (by assumption) | refine Chg.extS ?_ _ | refine Chg.alloc ?_ _ | refine Chg.drew ?_ | refine Chg.setCellE ?_ ?_ _ | refine le_addk ?_ _ | refine le_ext ?_ | refine le_alloc ?_ _ | refine le_setC ?_ _ _ | refine le_drew ?_ | assumption | (refine Nat.le_of_lt ?_; omega) | omega)))
          have hyw4 := trans_ext hyw hy4
          have T4 := T3.toExt x34
          obtain ⟨lt4, t40, t41, ft4⟩ := bx2 T4
          obtain ⟨lx4, x40, x41, fx4⟩ := bx2 X4
          have rk4 : RII w4 A3 r.2 := ((vII_get (sII_v _ _ _ hI3)).2).toExt x34
          have rr4 := h4.toExt hyw4
          have rv4 := HV1.out.toExt hy4
          clear hw4 hS3 hI3 hN3 hF3 T3 T4 X4 lp3 p30 fp3 hc hc1
          cases t with
          | false =>
            have HF2 := Lib.hid (show q.2.1.all (holdB d row) = false by rw [← He.out]; rfl)
            go_region_held3 (fun w' => (∀ a : Addr, a.block < w4.heap.size → w'.cell? a = w4.cell? a) ∧ ∃ y, w' = ext w4 y) (first | exact heldE (by refine Chg.isExt (F := []) ?_ (refl_ext _) (by simp); repeat (with_reducible (first | exact Chg.refl _ _ | exact Nat.le_refl _ | exact Chg.ofExt (by assumption) | refine Chg.trans0 ?_ (by assumption) | refine Chg.extS ?_ _ | refine Chg.alloc ?_ _ | refine Chg.drew ?_ | refine Chg.setCellE ?_ ?_ _ | refine le_addk ?_ _ | refine le_ext ?_ | refine le_alloc ?_ _ | refine le_setC ?_ _ _ | refine le_drew ?_ | assumption | (refine Nat.le_of_lt ?_; omega) | omega)))) (first
              | (go_at_call 107; refine (pick_any (rr4.toExt (by refine Chg.isExt (F := []) ?_ (refl_ext _) (by simp); repeat (with_reducible (first | exact Chg.refl _ _ | exact Nat.le_refl _ | exact Chg.ofExt (by assumption) | refine Chg.trans0 ?_ (by assumption) | refine Chg.extS ?_ _ | refine Chg.alloc ?_ _ | refine Chg.drew ?_ | refine Chg.setCellE ?_ ?_ _ | refine le_addk ?_ _ | refine le_ext ?_ | refine le_alloc ?_ _ | refine le_setC ?_ _ _ | refine le_drew ?_ | assumption | (refine Nat.le_of_lt ?_; omega) | omega)))) hxl (rv4.toExt (by refine Chg.isExt (F := []) ?_ (refl_ext _) (by simp); repeat (with_reducible (first | exact Chg.refl _ _ | exact Nat.le_refl _ | exact Chg.ofExt (by assumption) | refine Chg.trans0 ?_ (by assumption) | refine Chg.extS ?_ _ | refine Chg.alloc ?_ _ | refine Chg.drew ?_ | refine Chg.setCellE ?_ ?_ _ | refine le_addk ?_ _ | refine le_ext ?_ | refine le_alloc ?_ _ | refine le_setC ?_ _ _ | refine le_drew ?_ | assumption | (refine Nat.le_of_lt ?_; omega) | omega)))) HPI.out).mono ?_; rw [HPX.out]; rintro e w5 ⟨v5, F5, rfl, hx5, hS5, hF5⟩; obtain ⟨A5, c5, rfl, _, _, rv5⟩ := hS5.view sI_v)
              | (go_at_call 106; refine (ContainsRow_any hw9a HW9.out (rk4.toExt (by refine Chg.isExt (F := []) ?_ (refl_ext _) (by simp); repeat (with_reducible (first | exact Chg.refl _ _ | exact Nat.le_refl _ | exact Chg.ofExt (by assumption) | refine Chg.trans0 ?_ (by assumption) | refine Chg.extS ?_ _ | refine Chg.alloc ?_ _ | refine Chg.drew ?_ | refine Chg.setCellE ?_ ?_ _ | refine le_addk ?_ _ | refine le_ext ?_ | refine le_alloc ?_ _ | refine le_setC ?_ _ _ | refine le_drew ?_ | assumption | (refine Nat.le_of_lt ?_; omega) | omega)))) hpl rv5).mono ?_; rintro e w6 ⟨rfl, hx6⟩; rw [HTT.out]))
            go_wp2
            go_ret
            exact ⟨by rw [HE2.out, HF2.out]; rfl, trans_ext hyw4 (by refine Chg.isExt (F := []) ?_ (refl_ext _) (by simp); repeat (with_reducible (first | exact Chg.refl _ _ | exact Nat.le_refl _ | exact Chg.ofExt (by assumption) | refine Chg.trans0 ?_ (by assumption) | refine Chg.extS ?_ _ | refine Chg.alloc ?_ _ | refine Chg.drew ?_ | refine Chg.setCellE ?_ ?_ _ | refine le_addk ?_ _ | refine le_ext ?_ | refine le_alloc ?_ _ | refine le_setC ?_ _ _ | refine le_drew ?_ | assumption | (refine Nat.le_of_lt ?_; omega) | omega)))⟩
          | true =>
            have HK := Lib.hid (show (q.2.1.drop (k + 1)).all (holdB d row) = q.2.1.all (holdB d row) by rw [← He.out]; rfl)
            go_region_held3 (fun w' => (∀ a : Addr, a.block < w4.heap.size → w'.cell? a = w4.cell? a) ∧ ∃ y, w' = ext w4 y) (first | exact heldE (by refine Chg.isExt (F := []) ?_ (refl_ext _) (by simp); repeat (with_reducible (first | exact Chg.refl _ _ | exact Nat.le_refl _ | exact Chg.ofExt (by assumption) | refine Chg.trans0 ?_ (by assumption) | refine Chg.extS ?_ _ | refine Chg.alloc ?_ _ | refine Chg.drew ?_ | refine Chg.setCellE ?_ ?_ _ | refine le_addk ?_ _ | refine le_ext ?_ | refine le_alloc ?_ _ | refine le_setC ?_ _ _ | refine le_drew ?_ | assumption | (refine Nat.le_of_lt ?_; omega) | omega)))) (first
              | (go_at_call 107; refine (pick_any (rr4.toExt (by refine Chg.isExt (F := []) ?_ (refl_ext _) (by simp); repeat (with_reducible (first | exact Chg.refl _ _ | exact Nat.le_refl _ | exact Chg.ofExt (by assumption) | refine Chg.trans0 ?_ (by assumption) | refine Chg.extS ?_ _ | refine Chg.alloc ?_ _ | refine Chg.drew ?_ | refine Chg.setCellE ?_ ?_ _ | refine le_addk ?_ _ | refine le_ext ?_ | refine le_alloc ?_ _ | refine le_setC ?_ _ _ | refine le_drew ?_ | assumption | (refine Nat.le_of_lt ?_; omega) | omega)))) hxl (rv4.toExt (by refine Chg.isExt (F := []) ?_ (refl_ext _) (by simp); repeat (with_reducible (first | exact Chg.refl _ _ | exact Nat.le_refl _ | exact Chg.ofExt (by assumption) | refine Chg.trans0 ?_ (by assumption) | refine Chg.extS ?_ _ | refine Chg.alloc ?_ _ | refine Chg.drew ?_ | refine Chg.setCellE ?_ ?_ _ | refine le_addk ?_ _ | refine le_ext ?_ | refine le_alloc ?_ _ | refine le_setC ?_ _ _ | refine le_drew ?_ | assumption | (refine Nat.le_of_lt ?_; omega) | omega)))) HPI.out).mono ?_; rw [HPX.out]; rintro e w5 ⟨v5, F5, rfl, hx5, hS5, hF5⟩; obtain ⟨A5, c5, rfl, _, _, rv5⟩ := hS5.view sI_v)
              | (go_at_call 106; refine (ContainsRow_any hw9a HW9.out (rk4.toExt (by refine Chg.isExt (F := []) ?_ (refl_ext _) (by simp); repeat (with_reducible (first | exact Chg.refl _ _ | exact Nat.le_refl _ | exact Chg.ofExt (by assumption) | refine Chg.trans0 ?_ (by assumption) | refine Chg.extS ?_ _ | refine Chg.alloc ?_ _ | refine Chg.drew ?_ | refine Chg.setCellE ?_ ?_ _ | refine le_addk ?_ _ | refine le_ext ?_ | refine le_alloc ?_ _ | refine le_setC ?_ _ _ | refine le_drew ?_ | assumption | (refine Nat.le_of_lt ?_; omega) | omega)))) hpl rv5).mono ?_; rintro e w6 ⟨rfl, hx6⟩; rw [HTT.out]))
            go_wp2
            exact ⟨⟨k + 1, by go_num, by omega, trans_ext (trans_ext hy hy4) (by refine Chg.isExt (F := []) ?_ (refl_ext _) (by simp); repeat (with_reducible (first | exact Chg.refl _ _ | exact Nat.le_refl _ | exact Chg.ofExt (by assumption) | refine Chg.trans0 ?_ (by assumption) | refine Chg.extS ?_ _ | refine Chg.alloc ?_ _ | refine Chg.drew ?_ | refine Chg.setCellE ?_ ?_ _ | refine le_addk ?_ _ | refine le_ext ?_ | refine le_alloc ?_ _ | refine le_setC ?_ _ _ | refine le_drew ?_ | assumption | (refine Nat.le_of_lt ?_; omega) | omega))), HK⟩, by simp [intOf]; omega⟩
        · have e := Hj.out
          rw [holdL_end hlt] at e
          have HK := Lib.hid (show isbB d q row = true by rw [HE2.out, ← e])
          clear e Hj
          go_wp2
          go_ret
          exact ⟨by rw [HK.out]; rfl, hyw⟩
set_option maxRecDepth 100000 in
set_option maxHeartbeats 16000000 in
theorem specIsBinding_any {A B C R : Option Addr} {c e g cr : Nat} {d : Dbd} {q : Qd} {row : List Int} {w : World} (hd : WDb d) (h1 : RV 3 vTb w A d) (hb : BQ q) (h2 : vQ w [.int .i64 q.1, .slice B q.2.1.length e, .slice C q.2.2.length g] q) (_hr : row.length ≤ 1000000000) (h4 : RI w R row) :
    Calls Try.prog 43 #[.agg #[.slice A d.length c], .agg #[.int .i64 q.1, .slice B q.2.1.length e, .slice C q.2.2.length g], .slice R row.length cr] w fun e w' => e = .returned (.bool (isbB d q row)) ∧ ∃ y, w' = ext w y := by
  have HD := Lib.hid hd
  have HB := Lib.hid hb
  have HV := Lib.hid h2
  have h3 := (vAts_get (vQ_get h2).1).2
  have hal := hb.2.1.1
  obtain ⟨t1, ht1⟩ : ∃ t, iqfB d q = t := ⟨_, rfl⟩
  obtain ⟨t2, ht2⟩ : ∃ t, decide ((row.length : Int) = q.1) = t := ⟨_, rfl⟩
  have hq2 : ((row.length : Int) != q.1) = !t2 := by rw [← ht2]; by_cases q9 : (row.length : Int) = q.1 <;> simp [q9]
  have HT1 := Lib.hid ht1
  have HE := Lib.hid (show isbB d q row = (t1 && t2 && q.2.1.all (holdB d row)) by unfold isbB; rw [ht1, ht2])
  have HQ := Lib.hid (fun (h : t1 = true) => qok (show iqfB d q = true by rw [ht1, h]))
  have HL := Lib.hid (fun (h : t2 = true) => show (row.length : Int) = q.1 from of_decide_eq_true (by rw [ht2, h]))
  have HLB : Hid (∀ x : At, x ∈ q.2.1 → x.2.length ≤ 1000000000) := Lib.hid (fun x hx => by have := (hb.2.1.each x hx).2; omega)
  clear hd hb h2 ht1 ht2
  go_enter Try.func43, Try.ntmps43
  go_upto_region 1 with fail
  refine wp_name ?_
  intro W hW
  have xW : ∃ y, W = ext w y := by rw [hW.out]; exact (by refine Chg.isExt (F := []) ?_ (refl_ext _) (by simp); repeat (with_reducible (first | exact Chg.refl _ _ | exact Nat.le_refl _ | exact Chg.ofExt (by assumption) | refine Chg.trans0 ?_ (by assumption) | refine Chg.extS ?_ _ | refine Chg.alloc ?_ _ | refine Chg.drew ?_ | refine Chg.setCellE ?_ ?_ _ | refine le_addk ?_ _ | refine le_ext ?_ | refine le_alloc ?_ _ | refine le_setC ?_ _ _ | refine le_drew ?_ | assumption | (refine Nat.le_of_lt ?_; omega) | omega)))
  have PW : BoxAt W w.heap.size #[.slice A d.length c] := by rw [hW.out]; exact (by repeat (with_reducible (first | assumption | exact BoxAt.new _ _ _ | apply BoxAt.set10 | apply BoxAt.set2 | refine BoxAt.set2' ?_ (by omega) | apply BoxAt.setP0 | apply BoxAt.setP1 | refine BoxAt.setO ?_ (by omega) | refine BoxAt.alloc ?_ _ | refine BoxAt.drew ?_ | refine BoxAt.toExt ?_ (by assumption))))
  have QW : BoxAt W (w.heap.size + 1) #[.int .i64 q.1, .slice B q.2.1.length e, .slice C q.2.2.length g] := by
    rw [hW.out]
    simpa using BoxAt.new (w.alloc (.cells #[.slice A d.length c] 45)) #[.int .i64 q.1, .slice B q.2.1.length e, .slice C q.2.2.length g] 66
  obtain ⟨lp, p0, fp⟩ := bx1 PW
  obtain ⟨lq, q0, q1, q2, fq⟩ := box3 QW
  clear hW
  cases t1 with
  | false =>
    go_wp2_with (go_at_call 39; refine (specIsQueryFor_any HD.out (h1.toExt xW) HB.out (VD.toExt HV.out xW)).mono ?_; rintro e w1 ⟨rfl, hx1⟩; rw [HT1.out]; obtain ⟨lq1, q10, q11, q12, fq1⟩ := box3 (QW.toExt hx1))
    go_ret
    exact ⟨by rw [HE.out]; rfl, trans_ext xW hx1⟩
  | true =>
    cases t2 with
    | false =>
      go_wp2_with (go_at_call 39; refine (specIsQueryFor_any HD.out (h1.toExt xW) HB.out (VD.toExt HV.out xW)).mono ?_; rintro e w1 ⟨rfl, hx1⟩; rw [HT1.out]; obtain ⟨lq1, q10, q11, q12, fq1⟩ := box3 (QW.toExt hx1))
      go_ret
      exact ⟨by rw [HE.out]; rfl, trans_ext xW hx1⟩
    | true =>
      have HE2 := Lib.hid (show isbB d q row = q.2.1.all (holdB d row) by rw [HE.out]; rfl)
      have HQK := Lib.hid (HQ.out (by trivial))
      have HLK := Lib.hid (HL.out (by trivial))
      go_wp2_with (go_at_call 39; refine (specIsQueryFor_any HD.out (h1.toExt xW) HB.out (VD.toExt HV.out xW)).mono ?_; rintro e w1 ⟨rfl, hx1⟩; rw [HT1.out]; obtain ⟨lq1, q10, q11, q12, fq1⟩ := box3 (QW.toExt hx1))
      have P1 := PW.toExt hx1
      have Q1 := QW.toExt hx1
      have xw1 := trans_ext xW hx1
      clear lp p0 fp lq q0 q1 q2 fq lq1 q10 q11 q12 fq1 PW QW
      go_loopw [7] (fun i wr => ∃ k : Nat, i = .int .i64 k ∧ k ≤ q.2.1.length ∧ (∃ y, wr = ext w1 y) ∧ Hid ((q.2.1.drop k).all (holdB d row) = q.2.1.all (holdB d row))) (fun i _ => q.2.1.length - (intOf i).toNat)
      case atStart => exact ⟨0, rfl, by omega, refl_ext w1, Lib.hid (by simp)⟩
      case round =>
        obtain ⟨k, rfl, hk, hy, Hj⟩ := hrel
        have hyw := trans_ext xw1 hy
        have P3 := P1.toExt hy
        have Q3 := Q1.toExt hy
        obtain ⟨lp3, p30, fp3⟩ := bx1 P3
        obtain ⟨lq3, q30, q31, q32, fq3⟩ := box3 Q3
        by_cases hlt : k < q.2.1.length
        · obtain ⟨b, o, A1, c1, rfl, hbb, hc, hc1, hv⟩ := (h3.toExt hyw).atA hlt
          have e := Hj.out
          rw [holdL_step hlt] at e
          have hfit := HQK.out.fit _ (List.getElem_mem hlt)
          have hvars := HQK.out.vars _ (List.getElem_mem hlt)
          have hxl := HLB.out _ (List.getElem_mem hlt)
          obtain ⟨x, hx⟩ : ∃ x, q.2.1[k] = x := ⟨_, rfl⟩
          rw [hx] at e hc hc1 hv hfit hvars hxl
          have hoo := atFit_get hfit
          have HPI := Lib.hid (show ∀ v ∈ x.2, 0 ≤ v ∧ v < (row.length : Int) by rw [HLK.out]; exact hvars)
          have hw9 := look_w HD.out (atFit_get hfit)
          obtain ⟨r, hr9⟩ : ∃ r, relOf d x = r := ⟨_, rfl⟩
          rw [holdB_eq hr9] at e
          rw [hr9] at hoo hw9
          obtain ⟨hw9a, hw9b⟩ := hw9
          have HW9 := Lib.hid hw9b
          obtain ⟨px, hpx⟩ : ∃ p, pickL row x.2 = p := ⟨_, rfl⟩
          have hpl : px.length ≤ 1000000000 := by rw [← hpx, pickL_length]; exact hxl
          rw [hpx] at e
          have HPX := Lib.hid hpx
          have HV1 := Lib.hid hv
          obtain ⟨t, ht⟩ : ∃ t, (rowsB r.1 r.2 && decide (px ∈ r.2)) = t := ⟨_, rfl⟩
          rw [ht] at e
          have HTT := Lib.hid ht
          have He := Lib.hid e
          obtain ⟨o, ho⟩ : ∃ o, o = some r := ⟨_, rfl⟩
          rw [← ho] at hoo
          have HO := Lib.hid hoo
          have HOR := Lib.hid ho
          clear ho
          clear hx hv hfit hvars hr9 hw9b hpx ht e hoo
          go_upto_region 6 with fail
          go_cut [8, 9] (CutR o wr)
          case first =>
            go_region_held3 (fun w' => (∀ a : Addr, a.block < wr.heap.size → w'.cell? a = wr.cell? a) ∧ ∃ y, w' = ext wr y) (first | exact heldE (by refine Chg.isExt (F := []) ?_ (refl_ext _) (by simp); repeat (with_reducible (first | exact Chg.refl _ _ | exact Nat.le_refl _ | exact Chg.ofExt (by assumption) | refine Chg.trans0 ?_ (by assumption) | refine Chg.extS ?_ _ | refine Chg.alloc ?_ _ | refine Chg.drew ?_ | refine Chg.setCellE ?_ ?_ _ | refine le_addk ?_ _ | refine le_ext ?_ | refine le_alloc ?_ _ | refine le_setC ?_ _ _ | refine le_drew ?_ | assumption | (refine Nat.le_of_lt ?_; omega) | omega)))) ((go_at_call 99; refine (specLookupRelation_any HD.out (h1.toExt (trans_ext hyw (by refine Chg.isExt (F := []) ?_ (refl_ext _) (by simp); repeat (with_reducible (first | exact Chg.refl _ _ | exact Nat.le_refl _ | exact Chg.ofExt (by assumption) | refine Chg.trans0 ?_ (by assumption) | refine Chg.extS ?_ _ | refine Chg.alloc ?_ _ | refine Chg.drew ?_ | refine Chg.setCellE ?_ ?_ _ | refine le_addk ?_ _ | refine le_ext ?_ | refine le_alloc ?_ _ | refine le_setC ?_ _ _ | refine le_drew ?_ | assumption | (refine Nat.le_of_lt ?_; omega) | omega)))))).mono ?_; rw [HO.out]; rintro e w3 ⟨u0, u1, F3, rfl, hx3, hS3, hN3, hF3⟩; obtain ⟨A3, c3, rfl, rfl, hI3⟩ := sRel_form hS3; (first | (have L3 : BoxAt w3 wr.heap.size #[.int .i64 0, .slice none 0 0] := BoxAt.toExt (BoxAt.new wr _ _) hx3; obtain ⟨z1, z2, z3, z4⟩ := bx2 L3) | (have L3 : BoxAt w3 wr.heap.size #[.int .i64 0, .slice none 0 0] := BoxAt.toExt (BoxAt.new wr.drew _ _) hx3; obtain ⟨z1, z2, z3, z4⟩ := bx2 L3) | (have L3 : BoxAt w3 wr.heap.size #[.int .i64 0, .slice none 0 0] := BoxAt.toExt (BoxAt.new wr _ _).drew hx3; obtain ⟨z1, z2, z3, z4⟩ := bx2 L3) | skip)))
            all_goals
              go_wp2_with fail
              go_meet
              have hz3 := size_of_ext hx3
              (first | simp only [World.size_alloc, World.drew] at hz3 hF3 | simp only [World.drew] at hz3 hF3)
              first
                | exact ⟨w3.heap.size, A3, c3, rfl, rfl, BoxAt.new _ _ _, (vII_get (sII_v _ _ _ (OD.toExt hI3 (alloc_ext _ _)))).2, by omega, (by refine Chg.isExt (F := []) ?_ (refl_ext _) (by simp); repeat (with_reducible (first | exact Chg.refl _ _ | exact Nat.le_refl _ | exact Chg.ofExt (by assumption) | refine Chg.trans0 ?_ (by assumption) | refine Chg.extS ?_ _ | refine Chg.alloc ?_ _ | refine Chg.drew ?_ | refine Chg.setCellE ?_ ?_ _ | refine le_addk ?_ _ | refine le_ext ?_ | refine le_alloc ?_ _ | refine le_setC ?_ _ _ | refine le_drew ?_ | assumption | (refine Nat.le_of_lt ?_; omega) | omega)))⟩
                | exact ⟨wr.heap.size, A3, c3, rfl, rfl, (by repeat (with_reducible (first | assumption | exact BoxAt.new _ _ _ | apply BoxAt.set2 | refine BoxAt.set2' ?_ (by omega) | apply BoxAt.setP0 | apply BoxAt.setP1 | refine BoxAt.setO ?_ (by omega) | refine BoxAt.alloc ?_ _ | refine BoxAt.drew ?_ | refine BoxAt.toExt ?_ (by assumption)))), (vII_get (sII_v _ _ _ (OD.chg (G := [wr.heap.size]) hI3 (by repeat (with_reducible (first | exact Chg.refl _ _ | refine Chg.trans0 ?_ (by assumption) | refine Chg.extS ?_ _ | refine Chg.alloc ?_ _ | refine Chg.drew ?_ | refine Chg.setCell ?_ (.inl (by simp)) _))) (fun x hx hm => by have := hF3 x hx; rw [List.mem_singleton.1 hm] at this; omega)))).2, by omega, (by refine Chg.isExt (F := []) ?_ (refl_ext _) (by simp); repeat (with_reducible (first | exact Chg.refl _ _ | exact Nat.le_refl _ | exact Chg.ofExt (by assumption) | refine Chg.trans0 ?_ (by assumption) | refine Chg.extS ?_ _ | refine Chg.alloc ?_ _ | refine Chg.drew ?_ | refine Chg.setCellE ?_ ?_ _ | refine le_addk ?_ _ | refine le_ext ?_ | refine le_alloc ?_ _ | refine le_setC ?_ _ _ | refine le_drew ?_ | assumption | (refine Nat.le_of_lt ?_; omega) | omega)))⟩
          obtain ⟨bX, A3, c3, rfl, rfl, BX, hvX, hbX, hxX⟩ := hcut
          obtain ⟨w4, rfl⟩ : ∃ W, W = wc := ⟨_, rfl⟩
          obtain rfl := HOR.out
          simp only [Option.getD_some] at BX hvX
          have hyw4 := trans_ext hyw hxX
          have hc14 := cellW hxX hbb hc1
          have hb4 := ltW hxX hbb
          obtain ⟨lq4, q40, q41, q42, fq4⟩ := box3 (Q3.toExt hxX)
          obtain ⟨lx4, x40, x41, fx4⟩ := bx2 BX
          have rr4 := h4.toExt hyw4
          have rv4 := HV1.out.toExt hxX
          clear lq3 q30 q31 q32 fq3 lp3 p30 fp3 hc hc1 hbb BX
          cases t with
          | false =>
            have HF2 := Lib.hid (show q.2.1.all (holdB d row) = false by rw [← He.out]; rfl)
            go_wp2_with fail
            go_region_held3 (fun w' => (∀ a : Addr, a.block < w4.heap.size → w'.cell? a = w4.cell? a) ∧ ∃ y, w' = ext w4 y) (first | exact heldE (by refine Chg.isExt (F := []) ?_ (refl_ext _) (by simp); repeat (with_reducible (first | exact Chg.refl _ _ | exact Nat.le_refl _ | exact Chg.ofExt (by assumption) | refine Chg.trans0 ?_ (by assumption) | refine Chg.extS ?_ _ | refine Chg.alloc ?_ _ | refine Chg.drew ?_ | refine Chg.setCellE ?_ ?_ _ | refine le_addk ?_ _ | refine le_ext ?_ | refine le_alloc ?_ _ | refine le_setC ?_ _ _ | refine le_drew ?_ | assumption | (refine Nat.le_of_lt ?_; omega) | omega)))) (first
              | (go_at_call 66; refine (l5Cols_any (rr4.toExt (by refine Chg.isExt (F := []) ?_ (refl_ext _) (by simp); repeat (with_reducible (first | exact Chg.refl _ _ | exact Nat.le_refl _ | exact Chg.ofExt (by assumption) | refine Chg.trans0 ?_ (by assumption) | refine Chg.extS ?_ _ | refine Chg.alloc ?_ _ | refine Chg.drew ?_ | refine Chg.setCellE ?_ ?_ _ | refine le_addk ?_ _ | refine le_ext ?_ | refine le_alloc ?_ _ | refine le_setC ?_ _ _ | refine le_drew ?_ | assumption | (refine Nat.le_of_lt ?_; omega) | omega)))) hxl (rv4.toExt (by refine Chg.isExt (F := []) ?_ (refl_ext _) (by simp); repeat (with_reducible (first | exact Chg.refl _ _ | exact Nat.le_refl _ | exact Chg.ofExt (by assumption) | refine Chg.trans0 ?_ (by assumption) | refine Chg.extS ?_ _ | refine Chg.alloc ?_ _ | refine Chg.drew ?_ | refine Chg.setCellE ?_ ?_ _ | refine le_addk ?_ _ | refine le_ext ?_ | refine le_alloc ?_ _ | refine le_setC ?_ _ _ | refine le_drew ?_ | assumption | (refine Nat.le_of_lt ?_; omega) | omega)))) HPI.out).mono ?_; rw [HPX.out]; rintro e w5 ⟨v5, F5, rfl, hx5, hS5, hF5⟩; obtain ⟨A5, c5, rfl, _, _, rv5⟩ := hS5.view sI_v)
              | (go_at_call 105; refine (specContainsRow_any hw9a HW9.out (hvX.toExt (by refine Chg.isExt (F := []) ?_ (refl_ext _) (by simp); repeat (with_reducible (first | exact Chg.refl _ _ | exact Nat.le_refl _ | exact Chg.ofExt (by assumption) | refine Chg.trans0 ?_ (by assumption) | refine Chg.extS ?_ _ | refine Chg.alloc ?_ _ | refine Chg.drew ?_ | refine Chg.setCellE ?_ ?_ _ | refine le_addk ?_ _ | refine le_ext ?_ | refine le_alloc ?_ _ | refine le_setC ?_ _ _ | refine le_drew ?_ | assumption | (refine Nat.le_of_lt ?_; omega) | omega)))) hpl rv5).mono ?_; rintro e w6 ⟨rfl, hx6⟩; rw [HTT.out]))
            go_wp2
            go_ret
            exact ⟨by rw [HE2.out, HF2.out]; rfl, trans_ext hyw4 (by refine Chg.isExt (F := []) ?_ (refl_ext _) (by simp); repeat (with_reducible (first | exact Chg.refl _ _ | exact Nat.le_refl _ | exact Chg.ofExt (by assumption) | refine Chg.trans0 ?_ (by assumption) | refine Chg.extS ?_ _ | refine Chg.alloc ?_ _ | refine Chg.drew ?_ | refine Chg.setCellE ?_ ?_ _ | refine le_addk ?_ _ | refine le_ext ?_ | refine le_alloc ?_ _ | refine le_setC ?_ _ _ | refine le_drew ?_ | assumption | (refine Nat.le_of_lt ?_; omega) | omega)))⟩
          | true =>
            have HK := Lib.hid (show (q.2.1.drop (k + 1)).all (holdB d row) = q.2.1.all (holdB d row) by rw [← He.out]; rfl)
            go_wp2_with fail
            go_region_held3 (fun w' => (∀ a : Addr, a.block < w4.heap.size → w'.cell? a = w4.cell? a) ∧ ∃ y, w' = ext w4 y) (first | exact heldE (by refine Chg.isExt (F := []) ?_ (refl_ext _) (by simp); repeat (with_reducible (first | exact Chg.refl _ _ | exact Nat.le_refl _ | exact Chg.ofExt (by assumption) | refine Chg.trans0 ?_ (by assumption) | refine Chg.extS ?_ _ | refine Chg.alloc ?_ _ | refine Chg.drew ?_ | refine Chg.setCellE ?_ ?_ _ | refine le_addk ?_ _ | refine le_ext ?_ | refine le_alloc ?_ _ | refine le_setC ?_ _ _ | refine le_drew ?_ | assumption | (refine Nat.le_of_lt ?_; omega) | omega)))) (first
              | (go_at_call 66; refine (l5Cols_any (rr4.toExt (by refine Chg.isExt (F := []) ?_ (refl_ext _) (by simp); repeat (with_reducible (first | exact Chg.refl _ _ | exact Nat.le_refl _ | exact Chg.ofExt (by assumption) | refine Chg.trans0 ?_ (by assumption) | refine Chg.extS ?_ _ | refine Chg.alloc ?_ _ | refine Chg.drew ?_ | refine Chg.setCellE ?_ ?_ _ | refine le_addk ?_ _ | refine le_ext ?_ | refine le_alloc ?_ _ | refine le_setC ?_ _ _ | refine le_drew ?_ | assumption | (refine Nat.le_of_lt ?_; omega) | omega)))) hxl (rv4.toExt (by refine Chg.isExt (F := []) ?_ (refl_ext _) (by simp); repeat (with_reducible (first | exact Chg.refl _ _ | exact Nat.le_refl _ | exact Chg.ofExt (by assumption) | refine Chg.trans0 ?_ (by assumption) | refine Chg.extS ?_ _ | refine Chg.alloc ?_ _ | refine Chg.drew ?_ | refine Chg.setCellE ?_ ?_ _ | refine le_addk ?_ _ | refine le_ext ?_ | refine le_alloc ?_ _ | refine le_setC ?_ _ _ | refine le_drew ?_ | assumption | (refine Nat.le_of_lt ?_; omega) | omega)))) HPI.out).mono ?_; rw [HPX.out]; rintro e w5 ⟨v5, F5, rfl, hx5, hS5, hF5⟩; obtain ⟨A5, c5, rfl, _, _, rv5⟩ := hS5.view sI_v)
              | (go_at_call 105; refine (specContainsRow_any hw9a HW9.out (hvX.toExt (by refine Chg.isExt (F := []) ?_ (refl_ext _) (by simp); repeat (with_reducible (first | exact Chg.refl _ _ | exact Nat.le_refl _ | exact Chg.ofExt (by assumption) | refine Chg.trans0 ?_ (by assumption) | refine Chg.extS ?_ _ | refine Chg.alloc ?_ _ | refine Chg.drew ?_ | refine Chg.setCellE ?_ ?_ _ | refine le_addk ?_ _ | refine le_ext ?_ | refine le_alloc ?_ _ | refine le_setC ?_ _ _ | refine le_drew ?_ | assumption | (refine Nat.le_of_lt ?_; omega) | omega)))) hpl rv5).mono ?_; rintro e w6 ⟨rfl, hx6⟩; rw [HTT.out]))
            go_wp2
            exact ⟨⟨k + 1, by go_num, by omega, trans_ext (trans_ext hy hxX) (by refine Chg.isExt (F := []) ?_ (refl_ext _) (by simp); repeat (with_reducible (first | exact Chg.refl _ _ | exact Nat.le_refl _ | exact Chg.ofExt (by assumption) | refine Chg.trans0 ?_ (by assumption) | refine Chg.extS ?_ _ | refine Chg.alloc ?_ _ | refine Chg.drew ?_ | refine Chg.setCellE ?_ ?_ _ | refine le_addk ?_ _ | refine le_ext ?_ | refine le_alloc ?_ _ | refine le_setC ?_ _ _ | refine le_drew ?_ | assumption | (refine Nat.le_of_lt ?_; omega) | omega))), HK⟩, by simp [intOf]; omega⟩
        · have e := Hj.out
          rw [holdL_end hlt] at e
          have HK := Lib.hid (show isbB d q row = true by rw [HE2.out, ← e])
          clear e Hj
          go_wp2
          go_ret
          exact ⟨by rw [HK.out]; rfl, hyw⟩
end Go.Proofs.Ytgoleefkbjjidaa

/- Relations projected: the program's way and the reference's. -/
namespace Go.Proofs.Ytgoleefkbjjidaa
open Go.RowKit

def projR (d : Rd) (cols : List Int) : Option Rd := if rowsB d.1 d.2 = true ∧ fitsC d.1 cols = true then newR (cols.length : Int) (d.2.map fun r => pickL r cols) else none
theorem proj_in {a : Int} {rows : List (List Int)} {cols : List Int} (h : rowsB a rows = true) (hf : fitsC a cols = true) : ∀ r ∈ rows, ∀ v ∈ cols, 0 ≤ v ∧ v < r.length := fun r hr v hv => by
  have h1 := ((rowsB_iff.1 h).2.2.2.1 r hr).1
  have h2 := (fitsC_iff.1 hf).2 v hv
  omega
theorem map_take_step {rows : List (List Int)} {cols : List Int} {k : Nat} (h : k < rows.length) : (rows.take (k + 1)).map (fun r => pickL r cols) = (rows.take k).map (fun r => pickL r cols) ++ [pickL rows[k] cols] := by
  rw [List.take_succ_eq_append_getElem h, List.map_append]; rfl
set_option maxRecDepth 100000 in
set_option maxHeartbeats 8000000 in
theorem Project_any {a : Int} {A A' : Option Addr} {c c' : Nat} {rows : List (List Int)} {cols : List Int} {w : World} (ha : I64 a) (hx : rows.length ≤ 1000000000) (hxl : ∀ x ∈ rows, x.length ≤ 1000000000) (h1 : RII w A rows) (hc : cols.length ≤ 1000000000) (h2 : RI w A' cols) :
    Calls Try.prog 116 #[.agg #[.int .i64 a, .slice A rows.length c], .slice A' cols.length c'] w (RelOut (projR (a, rows) cols) w) := by
  obtain ⟨ha1, ha2⟩ := ha
  have Hxl := Lib.hid hxl
  obtain ⟨t, ht⟩ : ∃ t, rowsB a rows = t := ⟨_, rfl⟩
  have HT := Lib.hid ht
  clear hxl ht
  go_enter Try.func116, Try.ntmps116
  go_upto_region 1 with fail
  refine wp_name ?_
  intro W hW
  have xW : ∃ y, W = ext w y := by rw [hW.out]; exact (by refine Chg.isExt (F := []) ?_ (refl_ext _) (by simp); repeat (with_reducible (first | exact Chg.refl _ _ | exact Nat.le_refl _ | exact Chg.ofExt (by assumption) | refine Chg.trans0 ?_ (by assumption) | refine Chg.extS ?_ _ | refine Chg.alloc ?_ _ | refine Chg.drew ?_ | refine Chg.setCellE ?_ ?_ _ | refine le_addk ?_ _ | refine le_ext ?_ | refine le_alloc ?_ _ | refine le_setC ?_ _ _ | refine le_drew ?_ | assumption | (refine Nat.le_of_lt ?_; omega) | omega)))
  have PW : BoxAt W w.heap.size #[.int .i64 a, .slice A rows.length c] := by rw [hW.out]; exact (by repeat (with_reducible (first | assumption | exact BoxAt.new _ _ _ | apply BoxAt.set2 | refine BoxAt.set2' ?_ (by omega) | apply BoxAt.setP0 | apply BoxAt.setP1 | refine BoxAt.setO ?_ (by omega) | refine BoxAt.alloc ?_ _ | refine BoxAt.drew ?_ | refine BoxAt.toExt ?_ (by assumption))))
  have RW : BoxAt W (w.heap.size + 1) #[.int .i64 0, .slice none 0 0] := by
    rw [hW.out]
    simpa using BoxAt.new (w.alloc (.cells #[.int .i64 a, .slice A rows.length c] 29)) #[.int .i64 0, .slice none 0 0] 29
  obtain ⟨lp, p0, p0', fp⟩ := bx2 PW
  obtain ⟨lr, r0, r0', fr⟩ := bx2 RW
  clear hW
  cases t with
  | false =>
    have HZ := Lib.hid (show projR (a, rows) cols = none by unfold projR; rw [HT.out]; simp)
    go_wp2_with (go_at_call 120; refine (IsValidRelation_w hx Hxl.out (h1.toExt xW)).mono ?_; rintro e w3 ⟨rfl, hx3⟩; rw [HT.out]; obtain ⟨l3, a3, a3', f3⟩ := bx2 (RW.toExt hx3))
    refine bodyPost_ret (v := .tuple #[.agg #[.int .i64 0, .slice none 0 0], .bool false]) (by simp [results, Try.results116, go_sem, *]) rfl (relOut_none HZ.out rfl (by refine Chg.isExt (F := []) ?_ (refl_ext _) (by simp); repeat (with_reducible (first | exact Chg.refl _ _ | exact Nat.le_refl _ | exact Chg.ofExt (by assumption) | refine Chg.trans0 ?_ (by assumption) | refine Chg.extS ?_ _ | refine Chg.alloc ?_ _ | refine Chg.drew ?_ | refine Chg.setCellE ?_ ?_ _ | refine le_addk ?_ _ | refine le_ext ?_ | refine le_alloc ?_ _ | refine le_setC ?_ _ _ | refine le_drew ?_ | assumption | (refine Nat.le_of_lt ?_; omega) | omega))))
  | true =>
    have hv := rowsB_iff.1 HT.out
    have ha5 := hv.1
    have ha6 := hv.2.1
    obtain ⟨t2, ht2⟩ : ∃ t, fitsC a cols = t := ⟨_, rfl⟩
    have HT2 := Lib.hid ht2
    have HV := Lib.hid hv
    clear ht2 hv
    cases t2 with
    | false =>
      have HZ := Lib.hid (show projR (a, rows) cols = none by unfold projR; rw [HT2.out]; simp)
      go_wp2_with (first
        | (go_at_call 120; refine (IsValidRelation_w hx Hxl.out (h1.toExt xW)).mono ?_; rintro e w3 ⟨rfl, hx3⟩; rw [HT.out]; obtain ⟨l3, a3, a3', f3⟩ := bx2 (RW.toExt hx3); obtain ⟨l4, a4, a4', f4⟩ := bx2 (PW.toExt hx3))
        | (go_at_call 110; refine (columnsFit_any (by omega) (by omega) hc (h2.toExt (trans_ext xW hx3))).mono ?_; rintro e w4 ⟨rfl, rfl⟩; rw [HT2.out]))
      refine bodyPost_ret (v := .tuple #[.agg #[.int .i64 0, .slice none 0 0], .bool false]) (by simp [results, Try.results116, go_sem, *]) rfl (relOut_none HZ.out rfl (by refine Chg.isExt (F := []) ?_ (refl_ext _) (by simp); repeat (with_reducible (first | exact Chg.refl _ _ | exact Nat.le_refl _ | exact Chg.ofExt (by assumption) | refine Chg.trans0 ?_ (by assumption) | refine Chg.extS ?_ _ | refine Chg.alloc ?_ _ | refine Chg.drew ?_ | refine Chg.setCellE ?_ ?_ _ | refine le_addk ?_ _ | refine le_ext ?_ | refine le_alloc ?_ _ | refine le_setC ?_ _ _ | refine le_drew ?_ | assumption | (refine Nat.le_of_lt ?_; omega) | omega))))
    | true =>
      have HP := Lib.hid (proj_in HT.out HT2.out)
      have hcl := (fitsC_iff.1 HT2.out).1
      go_wp2_with (first
        | (go_at_call 120; refine (IsValidRelation_w hx Hxl.out (h1.toExt xW)).mono ?_; rintro e w3 ⟨rfl, hx3⟩; rw [HT.out]; obtain ⟨l3, a3, a3', f3⟩ := bx2 (RW.toExt hx3); obtain ⟨l4, a4, a4', f4⟩ := bx2 (PW.toExt hx3))
        | (go_at_call 110; refine (columnsFit_any (by omega) (by omega) hc (h2.toExt (trans_ext xW hx3))).mono ?_; rintro e w4 ⟨rfl, rfl⟩; rw [HT2.out]))
      have R3 := RW.toExt hx3
      have hxw3 := trans_ext xW hx3
      have hw3s := R3.1
      clear lp p0 p0' fp lr r0 r0' fr PW RW
      go_loopw [6, 23] (fun v i wr => ∃ (k : Nat) (F : List Nat), i = .int .i64 k ∧ k ≤ rows.length ∧ SV 22 1 sRow wr v ((rows.take k).map fun r => pickL r cols) F ∧ Hid F.Nodup ∧ Hid (∀ b ∈ F, w3.heap.size ≤ b) ∧ (∃ y, wr = ext w3 y)) (fun _ i _ => rows.length - (intOf i).toNat)
      case atStart => exact ⟨0, [], rfl, by omega, SV.nil, Lib.hid (by simp), Lib.hid (by simp), refl_ext w3⟩
      case round =>
        obtain ⟨k, F, rfl, hk, hS, HN, HF, hy⟩ := hrel
        have hyw := trans_ext hxw3 hy
        obtain ⟨l5, a5, a5', f5⟩ := bx2 (R3.toExt hy)
        by_cases hlt : k < rows.length
        · obtain ⟨b, o, A1, c1, rfl, hb, hcl1, hvx⟩ := (h1.toExt hyw).atV hlt
          have hpx := HP.out rows[k] (List.getElem_mem hlt)
          have Ht := Lib.hid (map_take_step (cols := cols) hlt)
          have hlk : ((rows.take k).map fun r => pickL r cols).length + 1 ≤ 2000000000 := by simp; omega
          have hSlt := Lib.hid hS.lt
          obtain ⟨x, hx1⟩ : ∃ x, rows[k] = x := ⟨_, rfl⟩
          rw [hx1] at hcl1 hvx hpx Ht
          obtain ⟨px, hpx2⟩ : ∃ p, pickL x cols = p := ⟨_, rfl⟩
          have HPX := Lib.hid hpx2
          rw [hpx2] at Ht
          have HPI := Lib.hid hpx
          clear hx1 hpx2 hpx
          go_wp2_with (first
            | (go_at_call 107; refine (pick_any hvx hc (h2.toExt hyw) HPI.out).mono ?_; rintro e w1 ⟨v1, F1, rfl, hx1, hS1, hF1⟩; rw [HPX.out] at hS1; obtain ⟨A2, c2, rfl, _, _⟩ := hS1.form; have hN2 := nodup_more HN.out hS1.nodup hSlt.out hF1; have hz1 := size_of_ext hx1)
            | (at_builtin; refine wpList_appN (E := sRow) (d := px) (G := F1) rfl _ _ _ rfl tIIr rfl rfl rfl (by simp) ⟨_, rfl, hS1⟩ rfl (by simp [Value.oneCell']) (hS.toExt hx1) hN2 hlk (by omega) ?_; intro v' w' F' hS' hC' hN' hF'))
          refine ⟨⟨k + 1, F', by go_num, by omega, by rw [Ht.out]; exact hS', Lib.hid hN', Lib.hid (fun b hb => ?_), hC'.isExt (trans_ext hy hx1) HF.out⟩, by simp [intOf]; omega⟩
          have hzw := size_of_ext hy
          rcases hF' b hb with h | h | h
          · exact HF.out b h
          · have := hF1 b h; omega
          · omega
        · rw [List.take_of_length_le (by omega)] at hS
          have HZ := Lib.hid (show projR (a, rows) cols = newR (cols.length : Int) (rows.map fun r => pickL r cols) by unfold projR; rw [if_pos ⟨HT.out, HT2.out⟩])
          obtain ⟨pr, hpr⟩ : ∃ p, (rows.map fun r => pickL r cols) = p := ⟨_, rfl⟩
          have hprl : pr.length ≤ 1000000000 := by rw [← hpr]; simpa using hx
          have Hprx : Hid (∀ x ∈ pr, x.length ≤ 1000000000) := Lib.hid (fun x hx => by
            rw [← hpr] at hx
            obtain ⟨r, _, rfl⟩ := List.mem_map.1 hx
            rw [pickL_length]; exact hc)
          rw [hpr] at hS HZ
          obtain ⟨nr, hnr⟩ : ∃ o, newR (cols.length : Int) pr = o := ⟨_, rfl⟩
          have HNR := Lib.hid hnr
          clear hpr hnr
          obtain ⟨A3, c3, rfl, hc3, _, rv3⟩ := hS.view (V := vSl 1 vI) (sSl_v sI_v)
          go_wp2_with (go_at_call 144; refine (NewRelation_any ⟨by omega, by omega⟩ hprl hc3 Hprx.out rv3).mono ?_; rw [HNR.out]; rintro e w5 ⟨v0, v1, F5, rfl, hx5, hS5, hN5, hF5⟩; obtain ⟨A6, c6, rfl, rfl, hS6⟩ := sRel_form hS5; obtain ⟨l6, a6, a6', f6⟩ := bx2 ((R3.toExt hy).toExt hx5))
          have hzz := size_of_ext (trans_ext hy hx5)
          have hzy := size_of_ext hy
          refine bodyPost_ret (v := .tuple #[.agg #[.int .i64 (nr.getD (0, [])).1, .slice A6 (nr.getD (0, [])).2.length c6], .bool nr.isSome]) (by simp [results, Try.results116, go_sem, *]) rfl ?_
          refine ⟨_, _, F5, by rw [HZ.out, HNR.out], (by refine Chg.isExt (F := []) ?_ (refl_ext _) (by simp); repeat (with_reducible (first | exact Chg.refl _ _ | exact Nat.le_refl _ | exact Chg.ofExt (by assumption) | refine Chg.trans0 ?_ (by assumption) | refine Chg.extS ?_ _ | refine Chg.alloc ?_ _ | refine Chg.drew ?_ | refine Chg.setCellE ?_ ?_ _ | refine le_addk ?_ _ | refine le_ext ?_ | refine le_alloc ?_ _ | refine le_setC ?_ _ _ | refine le_drew ?_ | assumption | (refine Nat.le_of_lt ?_; omega) | omega))), ?_, hN5, fun b hb => ?_⟩
          · rw [HZ.out, HNR.out]
            refine OD.chg (E := sRel) (G := [w.heap.size + 1]) hS5 (by repeat (with_reducible (first | exact Chg.refl _ _ | refine Chg.trans0 ?_ (by assumption) | refine Chg.extS ?_ _ | refine Chg.alloc ?_ _ | refine Chg.drew ?_ | refine Chg.setCell ?_ (.inl (by simp)) _))) ?_
            intro b hb h
            have := hF5 b hb
            rw [List.mem_singleton.1 h] at this
            omega
          · have := hF5 b hb
            have := size_of_ext hyw
            omega
set_option maxRecDepth 100000 in
set_option maxHeartbeats 8000000 in
theorem specProject_any {a : Int} {A A' : Option Addr} {c c' : Nat} {rows : List (List Int)} {cols : List Int} {w : World} (ha : -1000000000 ≤ a ∧ a ≤ 1000000000) (hx : rows.length ≤ 1000000000) (hxl : ∀ x ∈ rows, x.length ≤ 1000000000) (h1 : RII w A rows) (hc : cols.length ≤ 1000000000) (h2 : RI w A' cols) :
    Calls Try.prog 64 #[.agg #[.int .i64 a, .slice A rows.length c], .slice A' cols.length c'] w (RelOut (projR (a, rows) cols) w) := by
  obtain ⟨ha1, ha2⟩ := ha
  have Hxl := Lib.hid hxl
  obtain ⟨t, ht⟩ : ∃ t, rowsB a rows = t := ⟨_, rfl⟩
  have HT := Lib.hid ht
  clear hxl ht
  go_enter Try.func64, Try.ntmps64
  go_upto_region 1 with fail
  refine wp_name ?_
  intro W hW
  have xW : ∃ y, W = ext w y := by rw [hW.out]; exact (by refine Chg.isExt (F := []) ?_ (refl_ext _) (by simp); repeat (with_reducible (first | exact Chg.refl _ _ | exact Nat.le_refl _ | exact Chg.ofExt (by assumption) | refine Chg.trans0 ?_ (by assumption) | refine Chg.extS ?_ _ | refine Chg.alloc ?_ _ | refine Chg.drew ?_ | refine Chg.setCellE ?_ ?_ _ | refine le_addk ?_ _ | refine le_ext ?_ | refine le_alloc ?_ _ | refine le_setC ?_ _ _ | refine le_drew ?_ | assumption | (refine Nat.le_of_lt ?_; omega) | omega)))
  have PW : BoxAt W w.heap.size #[.int .i64 a, .slice A rows.length c] := by rw [hW.out]; exact (by repeat (with_reducible (first | assumption | exact BoxAt.new _ _ _ | apply BoxAt.set2 | refine BoxAt.set2' ?_ (by omega) | apply BoxAt.setP0 | apply BoxAt.setP1 | refine BoxAt.setO ?_ (by omega) | refine BoxAt.alloc ?_ _ | refine BoxAt.drew ?_ | refine BoxAt.toExt ?_ (by assumption))))
  have RW : BoxAt W (w.heap.size + 1) #[.int .i64 0, .slice none 0 0] := by
    rw [hW.out]
    simpa using BoxAt.new (w.alloc (.cells #[.int .i64 a, .slice A rows.length c] 29)) #[.int .i64 0, .slice none 0 0] 29
  clear hW
  go_wp2_with fail
  go_loopw [6] (fun i wr => ∃ k : Nat, i = .int .i64 k ∧ k ≤ cols.length ∧ Hid (((cols.drop k).all fun c => inB c 0 (a - 1)) = cols.all fun c => inB c 0 (a - 1)) ∧ ∃ y, wr = ext W y) (fun i _ => cols.length - (intOf i).toNat)
  case atStart => exact ⟨0, rfl, by omega, Lib.hid (by simp), refl_ext W⟩
  case round =>
    obtain ⟨k, rfl, hk, Hj, hy⟩ := hrel
    have hyw := trans_ext xW hy
    obtain ⟨l1, a1, a1', f1⟩ := bx2 (RW.toExt hy)
    obtain ⟨l2, a2, a2', f2⟩ := bx2 (PW.toExt hy)
    by_cases hlt : k < cols.length
    · obtain ⟨b, o, rfl, hb, hc1⟩ := (h2.toExt hyw).atI hlt
      have e := Hj.out
      rw [allR_step hlt] at e
      obtain ⟨n, hn⟩ : ∃ n, cols[k] = n := ⟨_, rfl⟩
      rw [hn] at e hc1
      obtain ⟨t3, ht3⟩ : ∃ t, inB n 0 (a - 1) = t := ⟨_, rfl⟩
      rw [ht3] at e
      have HT3 := Lib.hid ht3
      have He := Lib.hid e
      clear e ht3 hn
      cases t3
      · have HZ := Lib.hid (show projR (a, rows) cols = none by unfold projR fitsC; rw [show (cols.all fun c => inB c 0 (a - 1)) = false by rw [← He.out]; rfl]; simp)
        go_wp2_with fail
        refine wp_region_ext (by kernel_rfl) (by kernel_rfl) ?_
        repeat (go_big_quiet_step ((go_at_call 117; exact quietSb (l1In_any _ _ _ _) HT3.out)))
        refine wpQuiet_nil ?_
        rintro _ ⟨zz, rfl⟩
        go_wp2
        refine bodyPost_ret (v := .tuple #[.agg #[.int .i64 0, .slice none 0 0], .bool false]) (by simp [results, Try.results64, go_sem, *]) rfl (relOut_none HZ.out rfl (by refine Chg.isExt (F := []) ?_ (refl_ext _) (by simp); repeat (with_reducible (first | exact Chg.refl _ _ | exact Nat.le_refl _ | exact Chg.ofExt (by assumption) | refine Chg.trans0 ?_ (by assumption) | refine Chg.extS ?_ _ | refine Chg.alloc ?_ _ | refine Chg.drew ?_ | refine Chg.setCellE ?_ ?_ _ | refine le_addk ?_ _ | refine le_ext ?_ | refine le_alloc ?_ _ | refine le_setC ?_ _ _ | refine le_drew ?_ | assumption | (refine Nat.le_of_lt ?_; omega) | omega))))
      · go_wp2_with fail
        refine wp_region_ext (by kernel_rfl) (by kernel_rfl) ?_
        repeat (go_big_quiet_step ((go_at_call 117; exact quietSb (l1In_any _ _ _ _) HT3.out)))
        refine wpQuiet_nil ?_
        rintro _ ⟨zz, rfl⟩
        go_wp2
        exact ⟨⟨k + 1, by go_num, by omega, Lib.hid (by simpa using He.out), (by refine Chg.isExt (F := []) ?_ (refl_ext _) (by simp); repeat (with_reducible (first | exact Chg.refl _ _ | exact Nat.le_refl _ | exact Chg.ofExt (by assumption) | refine Chg.trans0 ?_ (by assumption) | refine Chg.extS ?_ _ | refine Chg.alloc ?_ _ | refine Chg.drew ?_ | refine Chg.setCellE ?_ ?_ _ | refine le_addk ?_ _ | refine le_ext ?_ | refine le_alloc ?_ _ | refine le_setC ?_ _ _ | refine le_drew ?_ | assumption | (refine Nat.le_of_lt ?_; omega) | omega)))⟩, by simp [intOf]; omega⟩
    · have HAL := Lib.hid (show (cols.all fun c => inB c 0 (a - 1)) = true by rw [← Hj.out, allR_end hlt])
      cases t with
      | false =>
        have HZ := Lib.hid (show projR (a, rows) cols = none by unfold projR; rw [HT.out]; simp)
        go_wp2_with (go_at_call 118; refine (specIsValidRelation_w hx Hxl.out (h1.toExt hyw)).mono ?_; rintro e w3 ⟨rfl, hx3⟩; rw [HT.out]; obtain ⟨l3, a3, a3', f3⟩ := bx2 (RW.toExt (trans_ext hy hx3)))
        refine bodyPost_ret (v := .tuple #[.agg #[.int .i64 0, .slice none 0 0], .bool false]) (by simp [results, Try.results64, go_sem, *]) rfl (relOut_none HZ.out rfl (by refine Chg.isExt (F := []) ?_ (refl_ext _) (by simp); repeat (with_reducible (first | exact Chg.refl _ _ | exact Nat.le_refl _ | exact Chg.ofExt (by assumption) | refine Chg.trans0 ?_ (by assumption) | refine Chg.extS ?_ _ | refine Chg.alloc ?_ _ | refine Chg.drew ?_ | refine Chg.setCellE ?_ ?_ _ | refine le_addk ?_ _ | refine le_ext ?_ | refine le_alloc ?_ _ | refine le_setC ?_ _ _ | refine le_drew ?_ | assumption | (refine Nat.le_of_lt ?_; omega) | omega))))
      | true =>
        by_cases h5 : cols.length ≤ 5
        · have HF2 := Lib.hid (show fitsC a cols = true by unfold fitsC; rw [HAL.out, decide_eq_true h5]; rfl)
          have HP := Lib.hid (proj_in HT.out HF2.out)
          have HV := Lib.hid (rowsB_iff.1 HT.out)
          have hx4 : rows.length ≤ 4000 := HV.out.2.2.1
          go_wp2_with (go_at_call 118; refine (specIsValidRelation_w hx Hxl.out (h1.toExt hyw)).mono ?_; rintro e w3 ⟨rfl, hx3⟩; rw [HT.out]; obtain ⟨l3, a3, a3', f3⟩ := bx2 (RW.toExt (trans_ext hy hx3)); obtain ⟨l4, a4, a4', f4⟩ := bx2 (PW.toExt (trans_ext hy hx3)))
          have R3 := RW.toExt (trans_ext hy hx3)
          have P3 := PW.toExt (trans_ext hy hx3)
          have hxw3 := trans_ext hyw hx3
          have hw3s := R3.1
          have hS0 := SV.empty (α := List Int) (te := 22) (size := 1) (E := sRow) w3
          clear l1 a1 a1' f1 l2 a2 a2' f2 PW RW
          go_loopw [7, 8] (fun v i wr => ∃ (k : Nat) (F : List Nat), i = .int .i64 k ∧ k ≤ rows.length ∧ SV 22 1 sRow wr v ((rows.take k).map fun r => pickL r cols) F ∧ Hid F.Nodup ∧ Hid (∀ b ∈ F, w3.heap.size ≤ b) ∧ (∃ y, wr = ext w3 y)) (fun _ i _ => rows.length - (intOf i).toNat)
          case atStart => exact ⟨0, _, rfl, by omega, hS0, Lib.hid (by simp), Lib.hid (by simp), alloc_ext _ _⟩
          case round =>
            obtain ⟨k, F, rfl, hk, hS, HN, HF, hy⟩ := hrel
            have hyw := trans_ext hxw3 hy
            obtain ⟨l5, a5, a5', f5⟩ := bx2 (R3.toExt hy)
            obtain ⟨l9, a9, a9', f9⟩ := bx2 (P3.toExt hy)
            by_cases hlt : k < rows.length
            · obtain ⟨b, o, A1, c1, rfl, hb, hcl1, hvx⟩ := (h1.toExt hyw).atV hlt
              have hpx := HP.out rows[k] (List.getElem_mem hlt)
              have Ht := Lib.hid (map_take_step (cols := cols) hlt)
              have hlk : ((rows.take k).map fun r => pickL r cols).length + 1 ≤ 2000000000 := by simp; omega
              have hSlt := Lib.hid hS.lt
              obtain ⟨x, hx1⟩ : ∃ x, rows[k] = x := ⟨_, rfl⟩
              rw [hx1] at hcl1 hvx hpx Ht
              obtain ⟨px, hpx2⟩ : ∃ p, pickL x cols = p := ⟨_, rfl⟩
              have HPX := Lib.hid hpx2
              rw [hpx2] at Ht
              have HPI := Lib.hid hpx
              clear hx1 hpx2 hpx
              go_wp2_with (first
                | (go_at_call 66; refine (l5Cols_any hvx hc (h2.toExt hyw) HPI.out).mono ?_; rintro e w1 ⟨v1, F1, rfl, hx1, hS1, hF1⟩; rw [HPX.out] at hS1; obtain ⟨A2, c2, rfl, _, _⟩ := hS1.form; have hN2 := nodup_more HN.out hS1.nodup hSlt.out hF1; have hz1 := size_of_ext hx1)
                | (at_builtin; refine wpList_appN (E := sRow) (d := px) (G := F1) rfl _ _ _ rfl tIIr rfl rfl rfl (by simp) ⟨_, rfl, hS1⟩ rfl (by simp [Value.oneCell']) (hS.toExt hx1) hN2 hlk (by omega) ?_; intro v' w' F' hS' hC' hN' hF'))
              refine ⟨⟨k + 1, F', by go_num, by omega, by rw [Ht.out]; exact hS', Lib.hid hN', Lib.hid (fun b hb => ?_), hC'.isExt (trans_ext hy hx1) HF.out⟩, by simp [intOf]; omega⟩
              have hzw := size_of_ext hy
              rcases hF' b hb with h | h | h
              · exact HF.out b h
              · have := hF1 b h; omega
              · omega
            · rw [List.take_of_length_le (by omega)] at hS
              have HZ := Lib.hid (show projR (a, rows) cols = newR (cols.length : Int) (rows.map fun r => pickL r cols) by unfold projR; rw [if_pos ⟨HT.out, HF2.out⟩])
              obtain ⟨pr, hpr⟩ : ∃ p, (rows.map fun r => pickL r cols) = p := ⟨_, rfl⟩
              have hprl : pr.length ≤ 1000000000 := by rw [← hpr]; simpa using hx
              have Hprx : Hid (∀ x ∈ pr, x.length ≤ 1000000000) := Lib.hid (fun x hx => by
                rw [← hpr] at hx
                obtain ⟨r, _, rfl⟩ := List.mem_map.1 hx
                rw [pickL_length]; exact hc)
              rw [hpr] at hS HZ
              obtain ⟨nr, hnr⟩ : ∃ o, newR (cols.length : Int) pr = o := ⟨_, rfl⟩
              have HNR := Lib.hid hnr
              clear hpr hnr
              obtain ⟨A3, c3, rfl, hc3, _, rv3⟩ := hS.view (V := vSl 1 vI) (sSl_v sI_v)
              go_wp2_with (go_at_call 76; refine (specNewRelation_any ⟨by omega, by omega⟩ hprl hc3 Hprx.out rv3).mono ?_; rw [HNR.out]; rintro e w5 ⟨v0, v1, F5, rfl, hx5, hS5, hN5, hF5⟩; obtain ⟨A6, c6, rfl, rfl, hS6⟩ := sRel_form hS5; obtain ⟨l6, a6, a6', f6⟩ := bx2 ((R3.toExt hy).toExt hx5))
              have hzz := size_of_ext (trans_ext hy hx5)
              have hzy := size_of_ext hy
              have hz5 := size_of_ext hx5
              refine bodyPost_ret (v := .tuple #[.agg #[.int .i64 (nr.getD (0, [])).1, .slice A6 (nr.getD (0, [])).2.length c6], .bool nr.isSome]) (by simp [results, Try.results64, go_sem, *]) rfl ?_
              refine ⟨_, _, F5, by rw [HZ.out, HNR.out], (by refine Chg.isExt (F := []) ?_ (refl_ext _) (by simp); repeat (with_reducible (first | exact Chg.refl _ _ | exact Nat.le_refl _ | exact Chg.ofExt (by assumption) | refine Chg.trans0 ?_ (by assumption) | refine Chg.extS ?_ _ | refine Chg.alloc ?_ _ | refine Chg.drew ?_ | refine Chg.setCellE ?_ ?_ _ | refine le_addk ?_ _ | refine le_ext ?_ | refine le_alloc ?_ _ | refine le_setC ?_ _ _ | refine le_drew ?_ | assumption | (refine Nat.le_of_lt ?_; omega) | omega))), ?_, hN5, fun b hb => ?_⟩
              · rw [HZ.out, HNR.out]
                refine OD.chg (E := sRel) (G := [w.heap.size + 1]) hS5 (by repeat (with_reducible (first | exact Chg.refl _ _ | refine Chg.trans0 ?_ (by assumption) | refine Chg.extS ?_ _ | refine Chg.alloc ?_ _ | refine Chg.drew ?_ | refine Chg.setCell ?_ (.inl (by simp)) _))) ?_
                intro b hb h
                have := hF5 b hb
                rw [List.mem_singleton.1 h] at this
                omega
              · have := hF5 b hb
                have := size_of_ext hyw
                omega
        · have HZ := Lib.hid (show projR (a, rows) cols = none by unfold projR fitsC; rw [decide_eq_false h5]; simp)
          go_wp2_with (go_at_call 118; refine (specIsValidRelation_w hx Hxl.out (h1.toExt hyw)).mono ?_; rintro e w3 ⟨rfl, hx3⟩; rw [HT.out]; obtain ⟨l3, a3, a3', f3⟩ := bx2 (RW.toExt (trans_ext hy hx3)); obtain ⟨l4, a4, a4', f4⟩ := bx2 (PW.toExt (trans_ext hy hx3)))
          refine bodyPost_ret (v := .tuple #[.agg #[.int .i64 0, .slice none 0 0], .bool false]) (by simp [results, Try.results64, go_sem, *]) rfl (relOut_none HZ.out rfl (by refine Chg.isExt (F := []) ?_ (refl_ext _) (by simp); repeat (with_reducible (first | exact Chg.refl _ _ | exact Nat.le_refl _ | exact Chg.ofExt (by assumption) | refine Chg.trans0 ?_ (by assumption) | refine Chg.extS ?_ _ | refine Chg.alloc ?_ _ | refine Chg.drew ?_ | refine Chg.setCellE ?_ ?_ _ | refine le_addk ?_ _ | refine le_ext ?_ | refine le_alloc ?_ _ | refine le_setC ?_ _ _ | refine le_drew ?_ | assumption | (refine Nat.le_of_lt ?_; omega) | omega))))
end Go.Proofs.Ytgoleefkbjjidaa

/- Two rows joined that agree on common variables: the program's way. -/
namespace Go.Proofs.Ytgoleefkbjjidaa
open Go.RowKit

def okG (va r vb s : List Int) (v : Int) : Bool := !(decide (v ∈ va) && decide (v ∈ vb)) || decide (valAt va r v = valAt vb s v)
def gval (va r vb s : List Int) (v : Int) : Int := if v ∈ va then valAt va r v else valAt vb s v
def glueO (un va r vb s : List Int) : Option (List Int) := if un.all (okG va r vb s) = true then some (glueR un va r vb s) else none
theorem okG_agree {un va r vb s : List Int} (h : ∀ v, v ∈ un ↔ v ∈ va ∨ v ∈ vb) : un.all (okG va r vb s) = agreeB va r vb s := by
  rw [Bool.eq_iff_iff, List.all_eq_true, agreeB_iff]
  unfold okG
  simp only [Bool.or_eq_true, Bool.not_eq_true', Bool.and_eq_false_iff, decide_eq_false_iff_not, decide_eq_true_eq]
  constructor
  · intro k v h1 h2
    rcases k v ((h v).2 (.inl h1)) with (k | k) | k
    · exact absurd h1 k
    · exact absurd h2 k
    · exact k
  · intro k v hv
    by_cases h1 : v ∈ va
    · by_cases h2 : v ∈ vb
      · exact .inr (k v h1 h2)
      · exact .inl (.inr h2)
    · exact .inl (.inl h1)
theorem iof_none {v : Int} : ∀ {k : Nat} {va : List Int}, v ∉ va → iof k v va = -1
  | _, [], _ => rfl
  | k, x :: va, h => by
    rw [List.mem_cons, not_or] at h
    rw [iof, if_neg (fun e => h.1 e.symm), iof_none h.2]
theorem iof_at {v : Int} {va r : List Int} (h : v ∈ va) : ∃ p : Nat, p < va.length ∧ iof 0 v va = (p : Int) ∧ valAt va r v = r.getD p 0 := by
  obtain ⟨i, h1, h2⟩ := iof_get (k := 0) h
  rw [Nat.zero_add] at h1
  exact ⟨i, (List.getElem?_eq_some_iff.1 h2).1, h1, by unfold valAt; rw [h1, Int.toNat_natCast]⟩
def GluP (o : Option (List Int)) (w : World) (e : Ending) (w' : World) : Prop := ∃ v F, e = .returned (.tuple #[v, .bool o.isSome]) ∧ (∃ y, w' = ext w y) ∧ SV 3 1 sI w' v (o.getD []) F ∧ ∀ b ∈ F, w.heap.size ≤ b
theorem gl_step {un va r vb s : List Int} {k : Nat} (h : k < un.length) : glueR (un.take (k + 1)) va r vb s = glueR (un.take k) va r vb s ++ [gval va r vb s un[k]] := by
  unfold glueR
  rw [List.take_succ_eq_append_getElem h, List.map_append]; rfl
theorem all_step {p : Int → Bool} {un : List Int} {k : Nat} (h : k < un.length) (h1 : (un.take k).all p = true) (h2 : p un[k] = true) : (un.take (k + 1)).all p = true := by
  rw [List.take_succ_eq_append_getElem h, List.all_append, h1]
  simpa using h2
theorem all_fail {p : Int → Bool} {un : List Int} {k : Nat} (h : k < un.length) (h2 : p un[k] = false) : ¬ un.all p = true := by
  intro h1
  rw [List.all_eq_true] at h1
  rw [h1 _ (List.getElem_mem h)] at h2
  cases h2
set_option maxRecDepth 100000 in
set_option maxHeartbeats 8000000 in
theorem glue_any {A B C D E : Option Addr} {a b c d e : Nat} {un va r vb s : List Int} {w : World} (hn : un.length ≤ 1000000) (hu : RI w A un) (hva : va.length ≤ 1000000) (h1 : RI w B va) (hr : r.length = va.length) (h2 : RI w C r) (hvb : vb.length ≤ 1000000) (h3 : RI w D vb) (hs : s.length = vb.length) (h4 : RI w E s) (hun : ∀ v ∈ un, v ∈ va ∨ v ∈ vb) :
    Calls Try.prog 70 #[.slice A un.length a, .slice B va.length b, .slice C r.length c, .slice D vb.length d, .slice E s.length e] w (GluP (glueO un va r vb s) w) := by
  have Hun := Lib.hid hun
  have hr1 : r.length ≤ va.length := by omega
  have hr2 : va.length ≤ r.length := by omega
  have hs1 : s.length ≤ vb.length := by omega
  have hs2 : vb.length ≤ s.length := by omega
  have hS0 := SV.empty (α := Int) (te := 3) (size := 1) (E := sI) w
  clear hr hs hun
  go_enter Try.func70, Try.ntmps70
  go_wp2
  go_loopw [12, 20] (fun v i wr => ∃ (k : Nat) (F : List Nat), i = .int .i64 k ∧ k ≤ un.length ∧ SV 3 1 sI wr v (glueR (un.take k) va r vb s) F ∧ (∀ b ∈ F, w.heap.size ≤ b) ∧ (∃ y, wr = ext w y) ∧ Hid ((un.take k).all (okG va r vb s) = true)) (fun _ i _ => un.length - (intOf i).toNat)
  case atStart => exact ⟨0, _, rfl, by omega, by simpa [glueR] using hS0, by simp, alloc_ext _ _, Lib.hid (by simp)⟩
  case round =>
    obtain ⟨k, F, rfl, hk, hS, hF, hy, Hok⟩ := hrel
    have HF := Lib.hid hF
    clear hF
    by_cases hlt : k < un.length
    · obtain ⟨bu, ou, rfl, hbu, hcu⟩ := (hu.toExt hy).atI hlt
      have hmem := Hun.out _ (List.getElem_mem hlt)
      have Ht := Lib.hid (gl_step (va := va) (r := r) (vb := vb) (s := s) hlt)
      have HOK := Lib.hid (fun h => all_step hlt Hok.out h)
      have HFA := Lib.hid (fun h => all_fail (p := okG va r vb s) hlt h)
      have hlk : (glueR (un.take k) va r vb s).length + 1 ≤ 2000000000 := by simp [glueR]; omega
      obtain ⟨v, hv⟩ : ∃ v, un[k] = v := ⟨_, rfl⟩
      rw [hv] at hcu hmem Ht HOK HFA
      obtain ⟨i, hi⟩ : ∃ i, iof 0 v va = i := ⟨_, rfl⟩
      obtain ⟨j, hj⟩ : ∃ j, iof 0 v vb = j := ⟨_, rfl⟩
      have HI := Lib.hid hi
      have HJ := Lib.hid hj
      go_upto_region 7 with (first
        | (go_at_call 111; with_reducible refine (indexOf_any (xs := va) (by omega) (h1.toExt ?_)).mono ?_; (focus (exact (by refine Chg.isExt (F := []) ?_ (refl_ext _) (by simp); repeat (with_reducible (first | exact Chg.refl _ _ | exact Nat.le_refl _ | exact Chg.ofExt (by assumption) | refine Chg.trans0 ?_ (by assumption) | refine Chg.extS ?_ _ | refine Chg.alloc ?_ _ | refine Chg.drew ?_ | refine Chg.setCellE ?_ ?_ _ | refine le_addk ?_ _ | refine le_ext ?_ | refine le_alloc ?_ _ | refine le_setC ?_ _ _ | refine le_drew ?_ | assumption | (refine Nat.le_of_lt ?_; omega) | omega))))); rintro e w1 ⟨rfl, hx1⟩; rw [HI.out])
        | (go_at_call 111; with_reducible refine (indexOf_any (xs := vb) (by omega) (h3.toExt ?_)).mono ?_; (focus (exact (by refine Chg.isExt (F := []) ?_ (refl_ext _) (by simp); repeat (with_reducible (first | exact Chg.refl _ _ | exact Nat.le_refl _ | exact Chg.ofExt (by assumption) | refine Chg.trans0 ?_ (by assumption) | refine Chg.extS ?_ _ | refine Chg.alloc ?_ _ | refine Chg.drew ?_ | refine Chg.setCellE ?_ ?_ _ | refine le_addk ?_ _ | refine le_ext ?_ | refine le_alloc ?_ _ | refine le_setC ?_ _ _ | refine le_drew ?_ | assumption | (refine Nat.le_of_lt ?_; omega) | omega))))); rintro e w2 ⟨rfl, hx2⟩; rw [HJ.out]))
      have hy2 : ∃ y, w2 = ext w y := (by refine Chg.isExt (F := []) ?_ (refl_ext _) (by simp); repeat (with_reducible (first | exact Chg.refl _ _ | exact Nat.le_refl _ | exact Chg.ofExt (by assumption) | refine Chg.trans0 ?_ (by assumption) | refine Chg.extS ?_ _ | refine Chg.alloc ?_ _ | refine Chg.drew ?_ | refine Chg.setCellE ?_ ?_ _ | refine le_addk ?_ _ | refine le_ext ?_ | refine le_alloc ?_ _ | refine le_setC ?_ _ _ | refine le_drew ?_ | assumption | (refine Nat.le_of_lt ?_; omega) | omega)))
      have hS2 := (hS.toExt hx1).toExt hx2
      by_cases ma : v ∈ va
      · obtain ⟨p, hp1, hp2, hp3⟩ := iof_at (r := r) ma
        rw [hi] at hp2
        obtain ⟨br, or, rfl, hbr, hcr⟩ := (h2.toExt hy2).atI' (n := p) (by omega)
        have hp4 : (p : Int) < (r.length : Int) := by omega
        by_cases mb : v ∈ vb
        · obtain ⟨q, hq1, hq2, hq3⟩ := iof_at (r := s) mb
          rw [hj] at hq2
          obtain ⟨bs', os', rfl, hbs, hcs⟩ := (h4.toExt hy2).atI' (n := q) (by omega)
          have hq4 : (q : Int) < (s.length : Int) := by omega
          have hgv : gval va r vb s v = r.getD p 0 := by unfold gval; rw [if_pos ma, hp3]
          have hok : okG va r vb s v = decide (r.getD p 0 = s.getD q 0) := by unfold okG; rw [decide_eq_true ma, decide_eq_true mb, hp3, hq3]; rfl
          obtain ⟨x, hx⟩ : ∃ x, r.getD p 0 = x := ⟨_, rfl⟩
          obtain ⟨z, hz⟩ : ∃ z, s.getD q 0 = z := ⟨_, rfl⟩
          rw [hx] at hcr hgv hok
          rw [hz] at hcs hok
          rw [hgv] at Ht
          rw [hok] at HOK HFA
          subst hp2 hq2
          clear hi hj hv hmem hp3 hq3 hx hz hgv hok ma mb
          by_cases hxz : x = z
          · have hne : (x != z) = false := by simpa using hxz
            have HOK := Lib.hid (HOK.out (by simpa using hxz))
            clear hxz
            refine wp_region_ext (by kernel_rfl) (by kernel_rfl) ?_
            repeat (go_big_quiet_step (fail))
            refine wpQuiet_nil ?_
            rintro _ ⟨zz, rfl⟩
            have hy1 : ∃ y, ext w2 zz = ext w y := trans_ext hy2 ⟨zz, rfl⟩
            have hS1 := hS2.toExt (⟨zz, rfl⟩ : ∃ y, ext w2 zz = ext w2 y)
            go_wp2_with (at_builtin; refine wpList_app1 (E := sI) (d := x) rfl _ _ _ rfl tI rfl rfl rfl (by simp) (fun _ => ⟨rfl, rfl⟩) rfl (by simp [Value.oneCell']) hS1 hlk (by omega) ?_; intro v' w' F' hS' hC' hF')
            exact ⟨⟨k + 1, F', by go_num, by omega, by rw [Ht.out]; exact hS', newer HF.out (size_of_ext hy1) hF', hC'.isExt hy1 HF.out, Lib.hid HOK.out⟩, by simp [intOf]; omega⟩
          · have hne : (x != z) = true := by simpa using hxz
            have HZ := Lib.hid (show glueO un va r vb s = none by unfold glueO; rw [if_neg (HFA.out (by simpa using hxz))])
            clear hxz
            refine wp_region_ext (by kernel_rfl) (by kernel_rfl) ?_
            repeat (go_big_quiet_step (fail))
            refine wpQuiet_nil ?_
            rintro _ ⟨zz, rfl⟩
            have hy1 : ∃ y, ext w2 zz = ext w y := trans_ext hy2 ⟨zz, rfl⟩
            have hS1 := hS2.toExt (⟨zz, rfl⟩ : ∃ y, ext w2 zz = ext w2 y)
            go_wp2
            go_ret2
            exact ⟨_, [], by rw [HZ.out]; rfl, hy1, by rw [HZ.out]; exact SV.nil, by simp⟩
        · have hgv : gval va r vb s v = r.getD p 0 := by unfold gval; rw [if_pos ma, hp3]
          have hok : okG va r vb s v = true := by unfold okG; rw [decide_eq_false mb]; simp
          have HOK := Lib.hid (HOK.out hok)
          obtain ⟨x, hx⟩ : ∃ x, r.getD p 0 = x := ⟨_, rfl⟩
          rw [hx] at hcr hgv
          rw [hgv] at Ht
          rw [iof_none mb] at hj
          subst hp2 hj
          clear hi hv hmem hp3 hx hgv hok ma mb
          refine wp_region_ext (by kernel_rfl) (by kernel_rfl) ?_
          repeat (go_big_quiet_step (fail))
          refine wpQuiet_nil ?_
          rintro _ ⟨zz, rfl⟩
          have hy1 : ∃ y, ext w2 zz = ext w y := trans_ext hy2 ⟨zz, rfl⟩
          have hS1 := hS2.toExt (⟨zz, rfl⟩ : ∃ y, ext w2 zz = ext w2 y)
          go_wp2_with (at_builtin; refine wpList_app1 (E := sI) (d := x) rfl _ _ _ rfl tI rfl rfl rfl (by simp) (fun _ => ⟨rfl, rfl⟩) rfl (by simp [Value.oneCell']) hS1 hlk (by omega) ?_; intro v' w' F' hS' hC' hF')
          exact ⟨⟨k + 1, F', by go_num, by omega, by rw [Ht.out]; exact hS', newer HF.out (size_of_ext hy1) hF', hC'.isExt hy1 HF.out, Lib.hid HOK.out⟩, by simp [intOf]; omega⟩
      · have mb : v ∈ vb := by
          rcases hmem with h | h
          · exact absurd h ma
          · exact h
        obtain ⟨q, hq1, hq2, hq3⟩ := iof_at (r := s) mb
        rw [hj] at hq2
        obtain ⟨bs', os', rfl, hbs, hcs⟩ := (h4.toExt hy2).atI' (n := q) (by omega)
        have hq4 : (q : Int) < (s.length : Int) := by omega
        have hgv : gval va r vb s v = s.getD q 0 := by unfold gval; rw [if_neg ma, hq3]
        have hok : okG va r vb s v = true := by unfold okG; rw [decide_eq_false ma]; simp
        have HOK := Lib.hid (HOK.out hok)
        obtain ⟨x, hx⟩ : ∃ x, s.getD q 0 = x := ⟨_, rfl⟩
        rw [hx] at hcs hgv
        rw [hgv] at Ht
        rw [iof_none ma] at hi
        subst hq2 hi
        clear hj hv hmem hq3 hx hgv hok ma mb
        refine wp_region_ext (by kernel_rfl) (by kernel_rfl) ?_
        repeat (go_big_quiet_step (fail))
        refine wpQuiet_nil ?_
        rintro _ ⟨zz, rfl⟩
        have hy1 : ∃ y, ext w2 zz = ext w y := trans_ext hy2 ⟨zz, rfl⟩
        have hS1 := hS2.toExt (⟨zz, rfl⟩ : ∃ y, ext w2 zz = ext w2 y)
        go_wp2_with (at_builtin; refine wpList_app1 (E := sI) (d := x) rfl _ _ _ rfl tI rfl rfl rfl (by simp) (fun _ => ⟨rfl, rfl⟩) rfl (by simp [Value.oneCell']) hS1 hlk (by omega) ?_; intro v' w' F' hS' hC' hF')
        exact ⟨⟨k + 1, F', by go_num, by omega, by rw [Ht.out]; exact hS', newer HF.out (size_of_ext hy1) hF', hC'.isExt hy1 HF.out, Lib.hid HOK.out⟩, by simp [intOf]; omega⟩
    · have HZ := Lib.hid (show glueO un va r vb s = some (glueR un va r vb s) by
        unfold glueO
        rw [if_pos (by have := Hok.out; rwa [List.take_of_length_le (by omega)] at this)])
      rw [show un.take k = un from List.take_of_length_le (by omega)] at hS
      go_wp2
      go_ret2
      exact ⟨_, F, by rw [HZ.out]; rfl, hy, by rw [HZ.out]; exact hS, HF.out⟩
end Go.Proofs.Ytgoleefkbjjidaa

/- The program's semijoin. -/
namespace Go.Proofs.Ytgoleefkbjjidaa
open Go.RowKit

def zVR : VRd := ([], 0, [])
def VROut (o : Option VRd) (w : World) (e : Ending) (w' : World) : Prop := ∃ v0 v1 v2 F, e = .returned (.tuple #[.agg #[v0, v1, v2], .bool o.isSome]) ∧ (∃ y, w' = ext w y) ∧ sVR w' [v0, v1, v2] (o.getD zVR) F ∧ F.Nodup ∧ ∀ b ∈ F, w.heap.size ≤ b
theorem sVR_mk {w : World} {v0 v2 : Value} {va : List Int} {z : Int} {rows : List (List Int)} {F G : List Nat} (h : SV 3 1 sI w v0 va F) (h2 : sII w [v2] rows G) : sVR w [v0, .int .i64 z, v2] (va, z, rows) (F ++ G) := sP_mk (d := (va, z, rows)) ⟨_, rfl, h⟩ (sRel_mk h2)
theorem vrOut_none {w w' : World} {e : Ending} {o : Option VRd} (ho : o = none) (he : e = .returned (.tuple #[.agg #[.slice none 0 0, .int .i64 0, .slice none 0 0], .bool false])) (hx : ∃ y, w' = ext w y) : VROut o w e w' := by
  subst ho
  exact ⟨.slice none 0 0, .int .i64 0, .slice none 0 0, [], he, hx, sVR_mk (F := []) (G := []) SV.nil ⟨_, rfl, SV.nil⟩, by simp, by simp⟩
theorem semi_step {va vb : List Int} {ra rb : List (List Int)} {k : Nat} (h : k < ra.length) : semiL va (ra.take (k + 1)) vb rb = semiL va (ra.take k) vb rb ++ (if (rb.any fun s => agreeB va ra[k] vb s) = true then [ra[k]] else []) := by
  unfold semiL
  rw [List.take_succ_eq_append_getElem h, List.filter_append, List.filter_cons, List.filter_nil]
theorem semiL_len {va vb : List Int} {ra rb : List (List Int)} {k : Nat} : (semiL va (ra.take k) vb rb).length ≤ k := Nat.le_trans (List.length_filter_le _ _) (by simp; omega)
def CutX (va : List Int) (ar : Int) (W : World) (v : Value) (wx : World) : Prop := ∃ b A1 c1 F1, v = .pointer (some ⟨b, 0, none⟩) ∧ BoxAt wx b #[.slice A1 va.length c1, .int .i64 ar, .slice none 0 0] ∧ SV 3 1 sI wx (.slice A1 va.length c1) va F1 ∧ (∀ x ∈ F1, W.heap.size ≤ x ∧ x ≠ b) ∧ W.heap.size ≤ b ∧ ∃ y, wx = ext W y
theorem glueO_some {un va r vb s : List Int} (h : un.all (okG va r vb s) = agreeB va r vb s) : (glueO un va r vb s).isSome = agreeB va r vb s := by
  unfold glueO
  rw [h]
  cases agreeB va r vb s <;> rfl
theorem any_snoc {p : List Int → Bool} {l : List (List Int)} {k : Nat} (h : k < l.length) (h1 : (l.take k).any p = false) (h2 : p l[k] = false) : (l.take (k + 1)).any p = false := by
  rw [List.take_succ_eq_append_getElem h, List.any_append, h1]
  simpa using h2
theorem any_hit {p : List Int → Bool} {l : List (List Int)} {k : Nat} (h : k < l.length) (h2 : p l[k] = true) : l.any p = true := List.any_eq_true.2 ⟨_, List.getElem_mem h, h2⟩
set_option maxRecDepth 100000 in
set_option maxHeartbeats 16000000 in
theorem SemiJoin_any {A B A' B' : Option Addr} {a b a' b' : Nat} {d d' : VRd} {w : World} (hb : BVR d) (h : vVR w [.slice A d.1.length a, .int .i64 d.2.1, .slice B d.2.2.length b] d) (hb' : BVR d') (h' : vVR w [.slice A' d'.1.length a', .int .i64 d'.2.1, .slice B' d'.2.2.length b'] d') :
    Calls Try.prog 17 #[.agg #[.slice A d.1.length a, .int .i64 d.2.1, .slice B d.2.2.length b], .agg #[.slice A' d'.1.length a', .int .i64 d'.2.1, .slice B' d'.2.2.length b']] w (VROut (semiR d d') w) := by
  obtain ⟨r1, r2, _⟩ := vVR_get h
  obtain ⟨s1, s2, _⟩ := vVR_get h'
  have r3 := (vII_get (vRel_get r2).2).2
  have s3 := (vII_get (vRel_get s2).2).2
  have HVa := Lib.hid h
  have HVb := Lib.hid h'
  have Hba := Lib.hid hb
  have Hbb := Lib.hid hb'
  obtain ⟨t1, ht1⟩ : ∃ t, vrB d = t := ⟨_, rfl⟩
  obtain ⟨t2, ht2⟩ : ∃ t, vrB d' = t := ⟨_, rfl⟩
  have HT1 := Lib.hid ht1
  have HT2 := Lib.hid ht2
  clear h h' hb hb' r2 s2 ht1 ht2
  go_enter Try.func17, Try.ntmps17
  go_upto_region 1 with fail
  refine wp_name ?_
  intro W hW
  have xW : ∃ y, W = ext w y := by rw [hW.out]; exact (by refine Chg.isExt (F := []) ?_ (refl_ext _) (by simp); repeat (with_reducible (first | exact Chg.refl _ _ | exact Nat.le_refl _ | exact Chg.ofExt (by assumption) | refine Chg.trans0 ?_ (by assumption) | refine Chg.extS ?_ _ | refine Chg.alloc ?_ _ | refine Chg.drew ?_ | refine Chg.setCellE ?_ ?_ _ | refine le_addk ?_ _ | refine le_ext ?_ | refine le_alloc ?_ _ | refine le_setC ?_ _ _ | refine le_drew ?_ | assumption | (refine Nat.le_of_lt ?_; omega) | omega)))
  have BW0 : BoxAt W (w.heap.size) #[.slice A d.1.length a, .int .i64 d.2.1, .slice B d.2.2.length b] := by rw [hW.out]; refine ⟨?_, fun j => ?_, fun j => ?_⟩ <;> go_simp
  obtain ⟨lW0, bW0, fW0⟩ := BW0
  have cW0_0 : W.cell? ⟨w.heap.size, 0, none⟩ = some (.slice A d.1.length a) := bW0 0
  have cW0_1 : W.cell? ⟨w.heap.size, 1, none⟩ = some (.int .i64 d.2.1) := bW0 1
  have cW0_2 : W.cell? ⟨w.heap.size, 2, none⟩ = some (.slice B d.2.2.length b) := bW0 2
  have BW1 : BoxAt W (w.heap.size + 1) #[.slice A' d'.1.length a', .int .i64 d'.2.1, .slice B' d'.2.2.length b'] := by rw [hW.out]; refine ⟨?_, fun j => ?_, fun j => ?_⟩ <;> go_simp
  obtain ⟨lW1, bW1, fW1⟩ := BW1
  have cW1_0 : W.cell? ⟨w.heap.size + 1, 0, none⟩ = some (.slice A' d'.1.length a') := bW1 0
  have cW1_1 : W.cell? ⟨w.heap.size + 1, 1, none⟩ = some (.int .i64 d'.2.1) := bW1 1
  have cW1_2 : W.cell? ⟨w.heap.size + 1, 2, none⟩ = some (.slice B' d'.2.2.length b') := bW1 2
  have BW2 : BoxAt W (w.heap.size + 1 + 1) #[.slice none 0 0, .int .i64 0, .slice none 0 0] := by rw [hW.out]; refine ⟨?_, fun j => ?_, fun j => ?_⟩ <;> go_simp
  obtain ⟨lW2, bW2, fW2⟩ := BW2
  have cW2_0 : W.cell? ⟨w.heap.size + 1 + 1, 0, none⟩ = some (.slice none 0 0) := bW2 0
  have cW2_1 : W.cell? ⟨w.heap.size + 1 + 1, 1, none⟩ = some (.int .i64 0) := bW2 1
  have cW2_2 : W.cell? ⟨w.heap.size + 1 + 1, 2, none⟩ = some (.slice none 0 0) := bW2 2
  clear hW
  have PW : BoxAt W w.heap.size #[.slice A d.1.length a, .int .i64 d.2.1, .slice B d.2.2.length b] := ⟨lW0, bW0, fW0⟩
  have QW : BoxAt W (w.heap.size + 1) #[.slice A' d'.1.length a', .int .i64 d'.2.1, .slice B' d'.2.2.length b'] := ⟨lW1, bW1, fW1⟩
  have RW : BoxAt W (w.heap.size + 1 + 1) #[.slice none 0 0, .int .i64 0, .slice none 0 0] := ⟨lW2, bW2, fW2⟩
  cases t1 with
  | false =>
    have HZ := Lib.hid (show semiR d d' = none by unfold semiR; rw [HT1.out]; simp)
    go_wp2_with (go_at_call 67; refine (IsValidVarRelation_any Hba.out (VD.toExt HVa.out xW)).mono ?_; rintro e w3 ⟨rfl, hx3⟩; rw [HT1.out]; obtain ⟨l3, a3, a3', a3'', f3⟩ := box3 (RW.toExt hx3))
    refine bodyPost_ret (v := .tuple #[.agg #[.slice none 0 0, .int .i64 0, .slice none 0 0], .bool false]) (by simp [results, Try.results17, go_sem, *]) rfl (vrOut_none HZ.out rfl (by refine Chg.isExt (F := []) ?_ (refl_ext _) (by simp); repeat (with_reducible (first | exact Chg.refl _ _ | exact Nat.le_refl _ | exact Chg.ofExt (by assumption) | refine Chg.trans0 ?_ (by assumption) | refine Chg.extS ?_ _ | refine Chg.alloc ?_ _ | refine Chg.drew ?_ | refine Chg.setCellE ?_ ?_ _ | refine le_addk ?_ _ | refine le_ext ?_ | refine le_alloc ?_ _ | refine le_setC ?_ _ _ | refine le_drew ?_ | assumption | (refine Nat.le_of_lt ?_; omega) | omega))))
  | true =>
    cases t2 with
    | false =>
      have HZ := Lib.hid (show semiR d d' = none by unfold semiR; rw [HT2.out]; simp)
      go_wp2_with (first
        | (go_at_call 67; with_reducible refine (IsValidVarRelation_any Hba.out (VD.toExt HVa.out ?_)).mono ?_; (focus (exact xW)); rintro e w3 ⟨rfl, hx3⟩; rw [HT1.out]; obtain ⟨l3, a3, a3', a3'', f3⟩ := box3 (QW.toExt hx3))
        | (go_at_call 67; with_reducible refine (IsValidVarRelation_any Hbb.out (VD.toExt HVb.out ?_)).mono ?_; (focus (exact (trans_ext xW hx3))); rintro e w4 ⟨rfl, hx4⟩; rw [HT2.out]; obtain ⟨l4, a4, a4', a4'', f4⟩ := box3 (RW.toExt (trans_ext hx3 hx4))))
      refine bodyPost_ret (v := .tuple #[.agg #[.slice none 0 0, .int .i64 0, .slice none 0 0], .bool false]) (by simp [results, Try.results17, go_sem, *]) rfl (vrOut_none HZ.out rfl (by refine Chg.isExt (F := []) ?_ (refl_ext _) (by simp); repeat (with_reducible (first | exact Chg.refl _ _ | exact Nat.le_refl _ | exact Chg.ofExt (by assumption) | refine Chg.trans0 ?_ (by assumption) | refine Chg.extS ?_ _ | refine Chg.alloc ?_ _ | refine Chg.drew ?_ | refine Chg.setCellE ?_ ?_ _ | refine le_addk ?_ _ | refine le_ext ?_ | refine le_alloc ?_ _ | refine le_setC ?_ _ _ | refine le_drew ?_ | assumption | (refine Nat.le_of_lt ?_; omega) | omega))))
    | true =>
      have HA := Lib.hid (vrB_iff.1 HT1.out)
      have HB := Lib.hid (vrB_iff.1 HT2.out)
      go_upto_region 3 with (first
        | (go_at_call 67; with_reducible refine (IsValidVarRelation_any Hba.out (VD.toExt HVa.out ?_)).mono ?_; (focus (exact xW)); rintro e w3 ⟨rfl, hx3⟩; rw [HT1.out]; obtain ⟨l3, a3, a3', a3'', f3⟩ := box3 (QW.toExt hx3))
        | (go_at_call 67; with_reducible refine (IsValidVarRelation_any Hbb.out (VD.toExt HVb.out ?_)).mono ?_; (focus (exact (trans_ext xW hx3))); rintro e w4 ⟨rfl, hx4⟩; rw [HT2.out]))
      have x4 := trans_ext hx3 hx4
      have xw4 := trans_ext xW x4
      have P4 := PW.toExt x4
      have Q4 := QW.toExt x4
      have R4 := RW.toExt x4
      obtain ⟨lp, p0, p1, p2, fp⟩ := box3 P4
      have hva5 : d.1.length ≤ 5 := HA.out.len
      have hvb5 : d'.1.length ≤ 5 := HB.out.len
      clear PW QW RW lW0 bW0 fW0 cW0_0 cW0_1 cW0_2 lW1 bW1 fW1 cW1_0 cW1_1 cW1_2 lW2 bW2 fW2 cW2_0 cW2_1 cW2_2 l3 a3 a3' a3'' f3 xW hx3 hx4
      go_cut [6] (CutX d.1 d.2.1 w4)
      case first =>
        go_region_held3 (fun w' => (∀ a : Addr, a.block < w4.heap.size → w'.cell? a = w4.cell? a) ∧ ∃ y, w' = ext w4 y) (first | exact heldE (by refine Chg.isExt (F := []) ?_ (refl_ext _) (by simp); repeat (with_reducible (first | exact Chg.refl _ _ | exact Nat.le_refl _ | exact Chg.ofExt (by assumption) | refine Chg.trans0 ?_ (by assumption) | refine Chg.extS ?_ _ | refine Chg.alloc ?_ _ | refine Chg.drew ?_ | refine Chg.setCellE ?_ ?_ _ | refine le_addk ?_ _ | refine le_ext ?_ | refine le_alloc ?_ _ | refine le_setC ?_ _ _ | refine le_drew ?_ | assumption | (refine Nat.le_of_lt ?_; omega) | omega)))) ((go_at_call 68; refine (copyInts_v (by omega) (r1.toExt (trans_ext xw4 (by refine Chg.isExt (F := []) ?_ (refl_ext _) (by simp); repeat (with_reducible (first | exact Chg.refl _ _ | exact Nat.le_refl _ | exact Chg.ofExt (by assumption) | refine Chg.trans0 ?_ (by assumption) | refine Chg.extS ?_ _ | refine Chg.alloc ?_ _ | refine Chg.drew ?_ | refine Chg.setCellE ?_ ?_ _ | refine le_addk ?_ _ | refine le_ext ?_ | refine le_alloc ?_ _ | refine le_setC ?_ _ _ | refine le_drew ?_ | assumption | (refine Nat.le_of_lt ?_; omega) | omega)))))).mono ?_; rintro e w5 ⟨v1, F1, rfl, hx5, hS1, hF1⟩; obtain ⟨A1, c1, rfl, _⟩ := hS1.form; try (obtain ⟨l6, b6, b6', b6'', f6⟩ := box3 (BoxAt.toExt (BoxAt.new w4 _ _).drew hx5))))
        all_goals
          go_wp2_with fail
          go_meet
          have hz5 := size_of_ext hx5
          have hlt1 := hS1.lt
          simp only [World.size_alloc, World.drew] at hz5 hF1
          first
            | exact ⟨w5.heap.size, A1, c1, F1, rfl, BoxAt.new _ _ _, hS1.toExt (alloc_ext _ _), fun x hx => ⟨hF1 x hx, by have := hlt1 x hx; omega⟩, size_of_ext (by refine Chg.isExt (F := []) ?_ (refl_ext _) (by simp); repeat (with_reducible (first | exact Chg.refl _ _ | exact Nat.le_refl _ | exact Chg.ofExt (by assumption) | refine Chg.trans0 ?_ (by assumption) | refine Chg.extS ?_ _ | refine Chg.alloc ?_ _ | refine Chg.drew ?_ | refine Chg.setCellE ?_ ?_ _ | refine le_addk ?_ _ | refine le_ext ?_ | refine le_alloc ?_ _ | refine le_setC ?_ _ _ | refine le_drew ?_ | assumption | (refine Nat.le_of_lt ?_; omega) | omega))), (by refine Chg.isExt (F := []) ?_ (refl_ext _) (by simp); repeat (with_reducible (first | exact Chg.refl _ _ | exact Nat.le_refl _ | exact Chg.ofExt (by assumption) | refine Chg.trans0 ?_ (by assumption) | refine Chg.extS ?_ _ | refine Chg.alloc ?_ _ | refine Chg.drew ?_ | refine Chg.setCellE ?_ ?_ _ | refine le_addk ?_ _ | refine le_ext ?_ | refine le_alloc ?_ _ | refine le_setC ?_ _ _ | refine le_drew ?_ | assumption | (refine Nat.le_of_lt ?_; omega) | omega)))⟩
            | exact ⟨w4.heap.size, A1, c1, F1, rfl, (by repeat (with_reducible (first | assumption | exact BoxAt.new _ _ _ | apply BoxAt.set3 | refine BoxAt.set3' ?_ (by omega) | apply BoxAt.set30 | apply BoxAt.set31 | apply BoxAt.set32 | apply BoxAt.set2 | refine BoxAt.set2' ?_ (by omega) | apply BoxAt.setP0 | apply BoxAt.setP1 | refine BoxAt.setO ?_ (by omega) | refine BoxAt.alloc ?_ _ | refine BoxAt.drew ?_ | refine BoxAt.toExt ?_ (by assumption)))), hS1.chg (G := [w4.heap.size]) (by repeat (with_reducible (first | exact Chg.refl _ _ | refine Chg.trans0 ?_ (by assumption) | refine Chg.extS ?_ _ | refine Chg.alloc ?_ _ | refine Chg.drew ?_ | refine Chg.setCell ?_ (.inl (by simp)) _))) (fun x hx hm => by have := hF1 x hx; rw [List.mem_singleton.1 hm] at this; omega), fun x hx => by have := hF1 x hx; omega, Nat.le_refl _, (by refine Chg.isExt (F := []) ?_ (refl_ext _) (by simp); repeat (with_reducible (first | exact Chg.refl _ _ | exact Nat.le_refl _ | exact Chg.ofExt (by assumption) | refine Chg.trans0 ?_ (by assumption) | refine Chg.extS ?_ _ | refine Chg.alloc ?_ _ | refine Chg.drew ?_ | refine Chg.setCellE ?_ ?_ _ | refine le_addk ?_ _ | refine le_ext ?_ | refine le_alloc ?_ _ | refine le_setC ?_ _ _ | refine le_drew ?_ | assumption | (refine Nat.le_of_lt ?_; omega) | omega)))⟩
      obtain ⟨bX, A1, c1, F1, rfl, BX, hSv, hF1, hbX, hxX⟩ := hcut
      obtain ⟨W5, rfl⟩ : ∃ W, W = wc := ⟨_, rfl⟩
      have HF1 := Lib.hid hF1
      clear hF1
      have P5 := P4.toExt hxX
      have Q5 := Q4.toExt hxX
      have R5 := R4.toExt hxX
      have xw5 := trans_ext xw4 hxX
      have hw4s := R4.1
      clear lp p0 p1 p2 fp P4 Q4 R4
      obtain ⟨lp, p0, p1, p2, fp⟩ := box3 P5
      obtain ⟨lq, q0, q1, q2, fq⟩ := box3 Q5
      go_wp2_with fail
      refine (unite_v (by omega) (r1.toExt xw5) (by omega) (s1.toExt xw5)).mono ?_
      rintro e W6 ⟨vu, Fu, rfl, hx6, hSu, hFu⟩
      have HFu := Lib.hid hFu
      clear hFu
      obtain ⟨Au, cu, rfl, _⟩ := hSu.form
      have hun := uniL_length d'.1 d.1
      have Hun := Lib.hid (fun v (hv : v ∈ uniL d.1 d'.1) => mem_uniL.1 hv)
      have Hag := Lib.hid (fun r s => okG_agree (un := uniL d.1 d'.1) (va := d.1) (r := r) (vb := d'.1) (s := s) (fun v => mem_uniL))
      obtain ⟨un, hune⟩ : ∃ u, uniL d.1 d'.1 = u := ⟨_, rfl⟩
      rw [hune] at hSu hun Hun Hag
      have P6 := P5.toExt hx6
      have Q6 := Q5.toExt hx6
      have R6 := R5.toExt hx6
      have X6 := BX.toExt hx6
      have hSv6 := hSv.toExt hx6
      have xw6 := trans_ext xw5 hx6
      have hW56 := size_of_ext hx6
      have hbW5 : bX < W5.heap.size := BX.1
      have hXW : bX < W6.heap.size := X6.1
      have hbXw : w.heap.size + 1 + 1 < bX := by omega
      have hunx : un.length ≤ 10 := by omega
      have HZ := Lib.hid (show semiR d d' = some (d.1, d.2.1, semiL d.1 d.2.2 d'.1 d'.2.2) by unfold semiR; rw [if_pos ⟨HT1.out, HT2.out⟩])
      have hra := HA.out.cnt
      have hrb := HB.out.cnt
      have HAl := Lib.hid HA.out.rl
      have HBl := Lib.hid HB.out.rl
      rw [hune] at *
      clear hune lp p0 p1 p2 fp lq q0 q1 q2 fq P5 Q5 R5 BX hSv HT1 HT2 HVa HVb Hba Hbb HA HB
      have hXX := X6
      obtain ⟨lx6, x60, x61, x62, fx6⟩ := box3 X6
      obtain ⟨lp6, p60, p61, p62, fp6⟩ := box3 P6
      go_wp2_with fail
      go_loopw [40] (fun i wr => ∃ (k : Nat) (A3 : Option Addr) (c3 : Nat) (F : List Nat), i = .int .i64 k ∧ k ≤ d.2.2.length ∧ BoxAt wr bX #[.slice A1 d.1.length c1, .int .i64 d.2.1, .slice A3 (semiL d.1 (d.2.2.take k) d'.1 d'.2.2).length c3] ∧ SV 22 1 sRow wr (.slice A3 (semiL d.1 (d.2.2.take k) d'.1 d'.2.2).length c3) (semiL d.1 (d.2.2.take k) d'.1 d'.2.2) F ∧ Hid F.Nodup ∧ Hid (∀ x ∈ F, W6.heap.size ≤ x) ∧ Chg [bX] W6 wr) (fun i _ => d.2.2.length - (intOf i).toNat)
      case atStart => exact ⟨0, none, 0, [], rfl, by omega, by simpa [semiL] using X6, by simpa [semiL] using SV.nil, Lib.hid (by simp), Lib.hid (by simp), Chg.refl _ _⟩
      case round =>
        obtain ⟨k, A3, c3, F, rfl, hk, hB, hS, HN, HF, hC⟩ := hrel
        clear lx6 x60 x61 x62 fx6 lp6 p60 p61 p62 fp6 hXX
        have hw : ∃ y, wr = ext w y := hC.isExt xw6 (by simp; omega)
        have P7 := P6.chg hC (by simp; omega)
        have Q7 := Q6.chg hC (by simp; omega)
        have R7 := R6.chg hC (by simp; omega)
        by_cases hlt : k < d.2.2.length
        · obtain ⟨br, orr, A4, c4, rfl, hbr, hcr, hvr⟩ := (r3.toExt hw).atV hlt
          have lr := HAl.out _ (List.getElem_mem hlt)
          have Hst := Lib.hid (semi_step (va := d.1) (vb := d'.1) (rb := d'.2.2) hlt)
          have hlk : (semiL d.1 (d.2.2.take k) d'.1 d'.2.2).length + 1 ≤ 2000000000 := by have := semiL_len (va := d.1) (vb := d'.1) (ra := d.2.2) (rb := d'.2.2) (k := k); omega
          obtain ⟨r, hr⟩ : ∃ r, d.2.2[k] = r := ⟨_, rfl⟩
          rw [hr] at hcr hvr lr Hst
          obtain ⟨sl, hsl⟩ : ∃ l, semiL d.1 (d.2.2.take k) d'.1 d'.2.2 = l := ⟨_, rfl⟩
          rw [hsl] at Hst hlk hB hS
          have HLR := Lib.hid lr
          clear hr hsl lr
          obtain ⟨lp7, p70, p71, p72, fp7⟩ := box3 P7
          obtain ⟨lq7, q70, q71, q72, fq7⟩ := box3 Q7
          have HB := Lib.hid hB
          have HS := Lib.hid hS
          have HC := Lib.hid hC
          have HSU := Lib.hid (hSu.chg hC (fun b hb h => by have := HFu.out b hb; rw [List.mem_singleton.1 h] at this; omega))
          have HSlt := Lib.hid hS.lt
          have hCs := hC.size
          have hbXr : bX < wr.heap.size := hB.1
          have hXF : bX ∉ F := fun h => by have := HF.out bX h; omega
          have HP7 := Lib.hid P7
          have HQ7 := Lib.hid Q7
          clear hB hS hC P7 Q7 R7
          obtain ⟨wo, rfl⟩ : ∃ wo : World, wo = wr := ⟨_, rfl⟩
          go_wp2_with fail
          go_loopw [48] (fun j wi => ∃ k2 : Nat, j = .int .i64 k2 ∧ k2 ≤ d'.2.2.length ∧ Hid (((d'.2.2.take k2).any fun s => agreeB d.1 r d'.1 s) = false) ∧ ∃ y, wi = ext wo y) (fun j _ => d'.2.2.length - (intOf j).toNat)
          case atStart => exact ⟨0, rfl, by omega, Lib.hid (by simp), refl_ext wo⟩
          case round =>
            obtain ⟨k2, rfl, hk2, HAN, hyi⟩ := hrel
            have hwi := trans_ext hw hyi
            obtain ⟨lp8, p80, p81, p82, fp8⟩ := box3 (HP7.out.toExt hyi)
            obtain ⟨lq8, q80, q81, q82, fq8⟩ := box3 (HQ7.out.toExt hyi)
            by_cases hlt2 : k2 < d'.2.2.length
            · obtain ⟨bs, os, A5, c5, rfl, hbs, hcs, hvs⟩ := (s3.toExt hwi).atV hlt2
              have ls := HBl.out _ (List.getElem_mem hlt2)
              have HAS := Lib.hid (fun (h : agreeB d.1 r d'.1 d'.2.2[k2] = false) => any_snoc hlt2 HAN.out h)
              have HAY := Lib.hid (fun (h : agreeB d.1 r d'.1 d'.2.2[k2] = true) => any_hit hlt2 h)
              obtain ⟨s, hs⟩ : ∃ s, d'.2.2[k2] = s := ⟨_, rfl⟩
              rw [hs] at hcs hvs ls HAS HAY
              have HLS := Lib.hid ls
              clear ls
              obtain ⟨o, ho⟩ : ∃ o, glueO un d.1 r d'.1 s = o := ⟨_, rfl⟩
              have HG := Lib.hid ho
              have hos : o.isSome = agreeB d.1 r d'.1 s := by rw [← ho]; exact glueO_some (Hag.out r s)
              obtain ⟨t, ht⟩ : ∃ t, agreeB d.1 r d'.1 s = t := ⟨_, rfl⟩
              rw [ht] at hos HAS HAY
              have HOS := Lib.hid hos
              have hruw := (HSU.out.toExt hyi).toView sI_v
              clear hs ho hos ht
              cases t with
              | false =>
                have HAS2 := Lib.hid (HAS.out rfl)
                go_wp2_with (go_at_call 70; refine (glue_any (by omega) hruw (by omega) (r1.toExt hwi) HLR.out (hvr.toExt hyi) (by omega) (s1.toExt hwi) HLS.out hvs Hun.out).mono ?_; rw [HG.out]; rintro e w8 ⟨vg, Fg, rfl, hx8, hSg, hFg⟩; rw [HOS.out])
                exact ⟨⟨k2 + 1, by go_num, by omega, Lib.hid HAS2.out, trans_ext hyi hx8⟩, by simp [intOf]; omega⟩
              | true =>
                have HST := Lib.hid (show semiL d.1 (d.2.2.take (k + 1)) d'.1 d'.2.2 = sl ++ [r] by rw [Hst.out, if_pos (HAY.out rfl)])
                go_upto_region 13 with (go_at_call 70; refine (glue_any (by omega) hruw (by omega) (r1.toExt hwi) HLR.out (hvr.toExt hyi) (by omega) (s1.toExt hwi) HLS.out hvs Hun.out).mono ?_; rw [HG.out]; rintro e w8 ⟨vg, Fg, rfl, hx8, hSg, hFg⟩; rw [HOS.out])
                have B8 := HB.out.toExt (trans_ext hyi hx8)
                obtain ⟨l8, b80, b81, b82, f8⟩ := box3 B8
                have hy8 := trans_ext hyi hx8
                have HS8 := Lib.hid (HS.out.toExt hy8)
                have hbX8 : bX < w8.heap.size := B8.1
                have hz8 := size_of_ext hy8
                have HR := Lib.hid (hvr.toExt hy8)
                have HB8 := Lib.hid B8
                have HFl8 : Hid (∀ b ∈ F, b < w8.drew.heap.size) := Lib.hid (fun b hb => Nat.lt_of_lt_of_le (HSlt.out b hb) (by simpa using hz8))
                have hrl : r.length ≤ 1000000000 := by rw [HLR.out]; omega
                clear hSg hFg B8 hruw lp8 p80 p81 p82 fp8 lq8 q80 q81 q82 fq8
                go_region_law (first
                  | (refine step_appB (E := sRow) (d := r) (G := F9) (cs := #[.slice A9 r.length c9]) (by rfl) _ _ _ (by rfl) tIIr (by rfl) (by rfl) (by exact BoxAt.new _ _ _) ⟨_, rfl, hS9.toExt (alloc_ext _ _)⟩ (by rfl) (by simp [Value.oneCell']) (SA9.toExt (alloc_ext _ _)) hNN (by omega) (by omega) ?_; intro v7 w7 F7 hS7 hC7 hN7 hF7; obtain ⟨A7, c7, rfl, _, _⟩ := hS7.form; have B7 := (B9.alloc (.cells #[.slice A9 r.length c9] 22)).chg hC7 hXF; obtain ⟨l7, k7, k7', k7'', f7⟩ := box3 B7)
                  | (rw [if_pos (by simp [Region.wanted])]; go_wp2_with (go_at_call 68; refine (copyInts_v hrl (HR.out.toExt (by refine Chg.isExt (F := []) ?_ (refl_ext _) (by simp); repeat (with_reducible (first | exact Chg.refl _ _ | exact Nat.le_refl _ | exact Chg.ofExt (by assumption) | refine Chg.trans0 ?_ (by assumption) | refine Chg.extS ?_ _ | refine Chg.alloc ?_ _ | refine Chg.drew ?_ | refine Chg.setCellE ?_ ?_ _ | refine le_addk ?_ _ | refine le_ext ?_ | refine le_alloc ?_ _ | refine le_setC ?_ _ _ | refine le_drew ?_ | assumption | (refine Nat.le_of_lt ?_; omega) | omega))))).mono ?_; rintro e w9 ⟨v9, F9, rfl, hx9, hS9, hF9⟩; obtain ⟨A9, c9, rfl, _, _⟩ := hS9.form; have B9 := HB8.out.drew.toExt hx9; obtain ⟨l9, k9, k9', k9'', f9⟩ := box3 B9; have SA9 := (HS8.out.toExt (drew_ext w8)).toExt hx9; have hz9 := size_of_ext hx9; have hNN := nodup_more HN.out hS9.nodup HFl8.out hF9)))
                all_goals
                  have hCa := (((((HC.out.trans0 hy8).drew).trans0 hx9).alloc (.cells #[.slice A9 r.length c9] 22)).trans hC7 (fun x hx => .inr (HF.out x hx))).setCell (p := ⟨bX, 2, none⟩) (.inl (by simp)) (.slice A7 (sl ++ [r]).length c7)
                  have hF7n : ∀ b ∈ F7, W6.heap.size ≤ b := fun b hb => by
                    rcases hF7 b hb with h | h | h
                    · exact HF.out b h
                    · have := hF9 b h; simp at this hz8; omega
                    · rw [World.size_alloc] at h; simp at hz9 hz8; omega
                  have hSf := hS7.chg ((Chg.refl [bX] w7).setCell (p := ⟨bX, 2, none⟩) (.inl (by simp)) (.slice A7 (sl ++ [r]).length c7)) (fun b hb h => by have := hF7n b hb; rw [List.mem_singleton.1 h] at this; omega)
                  have hBf := B7.set32 (u := .slice A7 (sl ++ [r]).length c7)
                  have hl1 : (sl ++ [r]).length = sl.length + 1 := by simp
                  rw [hl1] at hCa hSf hBf
                  have HL1 := Lib.hid hl1
                  clear hl1
                  have HH := Lib.hid (And.intro hSf (And.intro hBf (And.intro hCa hF7n)))
                  have HN7 := Lib.hid hN7
                  clear hCa hF7n hSf hBf hS7 hC7 hN7 hF7 B7 SA9 hS9 hF9 B9
                  go_wp2
                  exact ⟨⟨k + 1, A7, c7, F7, by go_num, by omega, by rw [HST.out, HL1.out]; exact HH.out.2.1, by rw [HST.out, HL1.out]; exact HH.out.1, Lib.hid HN7.out, Lib.hid HH.out.2.2.2, HH.out.2.2.1⟩, by simp [intOf]; omega⟩
            · have HST := Lib.hid (show semiL d.1 (d.2.2.take (k + 1)) d'.1 d'.2.2 = sl by rw [Hst.out, if_neg (by have := HAN.out; rw [List.take_of_length_le (by omega)] at this; simp [this]), List.append_nil])
              go_wp2
              exact ⟨⟨k + 1, A3, c3, F, by go_num, by omega, by rw [HST.out]; exact HB.out.toExt hyi, by rw [HST.out]; exact HS.out.toExt hyi, HN, HF, HC.out.trans0 hyi⟩, by simp [intOf]; omega⟩
        · obtain rfl : k = d.2.2.length := by omega
          rw [List.take_of_length_le (Nat.le_refl _)] at hB hS
          obtain ⟨sl, hsl⟩ : ∃ l, semiL d.1 d.2.2 d'.1 d'.2.2 = l := ⟨_, rfl⟩
          rw [hsl] at HZ hB hS
          obtain ⟨lr9, r90, r91, r92, fr9⟩ := box3 R7
          obtain ⟨lx9, x90, x91, x92, fx9⟩ := box3 hB
          have hSv9 := hSv6.chg hC (fun b hb h => (HF1.out b hb).2 (by simpa using h))
          have hlt9 := hSv6.lt
          clear hsl
          go_wp2
          refine bodyPost_ret (v := .tuple #[.agg #[.slice A1 d.1.length c1, .int .i64 d.2.1, .slice A3 sl.length c3], .bool true]) (by simp [results, Try.results17, go_sem, *]) rfl ⟨_, _, _, F1 ++ F, by rw [HZ.out]; rfl, (by refine Chg.isExt (F := []) ?_ (refl_ext _) (by simp); repeat (with_reducible (first | exact Chg.refl _ _ | exact Nat.le_refl _ | exact Chg.ofExt (by assumption) | refine Chg.trans0 ?_ (by assumption) | refine Chg.extS ?_ _ | refine Chg.alloc ?_ _ | refine Chg.drew ?_ | refine Chg.setCellE ?_ ?_ _ | refine le_addk ?_ _ | refine le_ext ?_ | refine le_alloc ?_ _ | refine le_setC ?_ _ _ | refine le_drew ?_ | assumption | (refine Nat.le_of_lt ?_; omega) | omega))), ?_, ?_, fun b hb => ?_⟩
          · rw [HZ.out]
            refine sVR_mk (hSv9.chg (G := [w.heap.size + 1 + 1]) (by repeat (with_reducible (first | exact Chg.refl _ _ | refine Chg.trans0 ?_ (by assumption) | refine Chg.extS ?_ _ | refine Chg.alloc ?_ _ | refine Chg.drew ?_ | refine Chg.setCell ?_ (.inl (by simp)) _))) ?_) (OD.chg (E := sII) (G := [w.heap.size + 1 + 1]) ⟨_, rfl, hS⟩ (by repeat (with_reducible (first | exact Chg.refl _ _ | refine Chg.trans0 ?_ (by assumption) | refine Chg.extS ?_ _ | refine Chg.alloc ?_ _ | refine Chg.drew ?_ | refine Chg.setCell ?_ (.inl (by simp)) _))) ?_)
            · intro b hb h
              have := (HF1.out b hb).1
              rw [List.mem_singleton.1 h] at this
              omega
            · intro b hb h
              have := HF.out b hb
              rw [List.mem_singleton.1 h] at this
              omega
          · exact nodup_more (n := W6.heap.size) hSv6.nodup HN.out hlt9 HF.out
          · have := size_of_ext xw4
            rcases List.mem_append.1 hb with h | h
            · have := (HF1.out b h).1; omega
            · have := HF.out b h; omega
end Go.Proofs.Ytgoleefkbjjidaa
