/- Numbers as decimal texts: the reference's and the program's way of writing them. -/
import Derived.Test.YthhdmdmjadpgjaaRows
import Derived.Test.YthhdmdmjadpgjaaOwn
import Derived.RegionTactic
import Derived.Test.YthhdmdmjadpgjaaBytes
import Derived.Test.YthhdmdmjadpgjaaDec
namespace Go.Proofs.Ythhdmdmjadpgjaa
open Go.RowKit

theorem conv1 (w : World) (b o cap : Nat) (n : Int) (h : w.cell? ⟨b, o, none⟩ = some (.int .u8 n)) : (convert 22 9 (.slice (some ⟨b, o, none⟩) 1 cap)).run Try.prog w = .ok (.string (bs [UInt8.ofNat n.toNat])) w :=
  run_convert_bytes_arg w _ _ Try.underlying22 Try.underlying5 b o 1 cap [n] rfl (fun i hi => by
    have : i = 0 := by omega
    subst this
    simpa using h) _ Try.underlying9
set_option maxHeartbeats 1000000 in
theorem l2Dec_any : ∀ (N : Nat) {z : Int} {w : World} (_hN : z.natAbs < N) (_h1 : -9223372036854775808 ≤ z) (_h2 : z ≤ 9223372036854775807),
    Calls Try.prog 42 #[.int .i64 z] w fun e w' => e = .returned (.string (decI z)) ∧ ∃ y, w' = ext w y
  | 0, z, w, hN, _, _ => absurd hN (by omega)
  | N + 1, z, w, hN, h1, h2 => by
    have IH := fun (m : Int) (w : World) (hm : m.natAbs < N) (a : -9223372036854775808 ≤ m) (b : m ≤ 9223372036854775807) => l2Dec_any N (z := m) (w := w) hm a b
    have kc := conv1
    by_cases c1 : z ≤ -10
    · have e1 := neg_td (z := z) (by omega)
      have e2 := neg_tm (z := z) (by omega)
      have t1 : -922337203685477580 ≤ z.tdiv 10 := by omega
      have t2 : z.tdiv 10 ≤ -1 := by omega
      have t3 : -9 ≤ z.tmod 10 := by omega
      have t4 : z.tmod 10 ≤ 0 := by omega
      have t5 : (-z.tdiv 10).natAbs < N := by omega
      have t6 : (-z.tmod 10).natAbs < N := by omega
      have u1 := decI_size (z := -z.tdiv 10) (by omega) (by omega)
      have u2 := decI_size (z := -z.tmod 10) (by omega) (by omega)
      clear e1 e2
      go_enter Try.func42, Try.ntmps42
      go_wp2_with (go_at_call 42; refine (IH _ _ (by first | exact t5 | exact t6) (by omega) (by omega)).mono ?_; rintro e w' ⟨rfl, hx⟩)
      go_ret
      exact ⟨by rw [← decI_neg c1]; rfl, (by refine Chg.isExt (F := []) ?_ (refl_ext _) (by simp); repeat (with_reducible (first | exact Chg.refl _ _ | exact Nat.le_refl _ | exact Chg.ofExt (by assumption) | refine Chg.trans0 ?_ (by assumption) | refine Chg.extS ?_ _ | refine Chg.alloc ?_ _ | refine Chg.drew ?_ | refine Chg.setCellE ?_ ?_ _ | refine le_addk ?_ _ | refine le_ext ?_ | refine le_alloc ?_ _ | refine le_setC ?_ _ _ | refine le_drew ?_ | assumption | (refine Nat.le_of_lt ?_; omega) | omega)))⟩
    · by_cases c2 : z < 0
      · have t5 : (-z).natAbs < N + 1 := by omega
        have u1 := decI_size (z := -z) (by omega) (by omega)
        have IH' : ∀ (w : World), Calls Try.prog 42 #[.int .i64 (-z)] w fun e w' => e = .returned (.string (decI (-z))) ∧ ∃ y, w' = ext w y := by
          intro w
          rw [← decI_one (z := -z) (by omega) (by omega)]
          have s1 : 0 ≤ -z := by omega
          have s2 : -z < 10 := by omega
          generalize -z = m at s1 s2
          clear IH t5 u1 c2 c1 h1 h2 hN
          go_enter Try.func42, Try.ntmps42
          go_wp2
          go_ret
          exact ⟨rfl, (by refine Chg.isExt (F := []) ?_ (refl_ext _) (by simp); repeat (with_reducible (first | exact Chg.refl _ _ | exact Nat.le_refl _ | exact Chg.ofExt (by assumption) | refine Chg.trans0 ?_ (by assumption) | refine Chg.extS ?_ _ | refine Chg.alloc ?_ _ | refine Chg.drew ?_ | refine Chg.setCellE ?_ ?_ _ | refine le_addk ?_ _ | refine le_ext ?_ | refine le_alloc ?_ _ | refine le_setC ?_ _ _ | refine le_drew ?_ | assumption | (refine Nat.le_of_lt ?_; omega) | omega)))⟩
        go_enter Try.func42, Try.ntmps42
        go_wp2_with (go_at_call 42; refine (IH' _).mono ?_; rintro e w' ⟨rfl, hx⟩)
        go_ret
        exact ⟨by rw [← decI_neg1 c2]; rfl, (by refine Chg.isExt (F := []) ?_ (refl_ext _) (by simp); repeat (with_reducible (first | exact Chg.refl _ _ | exact Nat.le_refl _ | exact Chg.ofExt (by assumption) | refine Chg.trans0 ?_ (by assumption) | refine Chg.extS ?_ _ | refine Chg.alloc ?_ _ | refine Chg.drew ?_ | refine Chg.setCellE ?_ ?_ _ | refine le_addk ?_ _ | refine le_ext ?_ | refine le_alloc ?_ _ | refine le_setC ?_ _ _ | refine le_drew ?_ | assumption | (refine Nat.le_of_lt ?_; omega) | omega)))⟩
      · by_cases c3 : z < 10
        · rw [← decI_one (by omega) c3]
          go_enter Try.func42, Try.ntmps42
          go_wp2
          go_ret
          exact ⟨rfl, (by refine Chg.isExt (F := []) ?_ (refl_ext _) (by simp); repeat (with_reducible (first | exact Chg.refl _ _ | exact Nat.le_refl _ | exact Chg.ofExt (by assumption) | refine Chg.trans0 ?_ (by assumption) | refine Chg.extS ?_ _ | refine Chg.alloc ?_ _ | refine Chg.drew ?_ | refine Chg.setCellE ?_ ?_ _ | refine le_addk ?_ _ | refine le_ext ?_ | refine le_alloc ?_ _ | refine le_setC ?_ _ _ | refine le_drew ?_ | assumption | (refine Nat.le_of_lt ?_; omega) | omega)))⟩
        · have c4 : 10 ≤ z := by omega
          have c5 : 0 ≤ z := by omega
          clear c2 c3 c1
          have t5 : (z / 10).natAbs < N := by omega
          have u1 := decI_size (z := z / 10) (by omega) (by omega)
          rw [← decI_pos (by omega)]
          go_enter Try.func42, Try.ntmps42
          go_wp2_with fail
          have u3 : (bs [UInt8.ofNat (48 + z % 10).toNat]).size = 1 := bs_size _
          have hq : IntKind.i64.wrap (z.tdiv 10) = z / 10 := by
            rw [Int.tdiv_eq_ediv_of_nonneg c5]
            rw [IntKind.wrap_i64]; omega
          have hr : IntKind.u8.wrap (IntKind.i64.wrap (48 + z.tmod 10)) = 48 + z % 10 := by
            rw [Int.tmod_eq_emod_of_nonneg c5, IntKind.wrap_i64, IntKind.wrap_u8]; omega
          go_region_with (first | (go_at_call 42; (try rw [hq]); refine (IH _ _ t5 (by omega) (by omega)).mono ?_; rintro e w2 ⟨rfl, y, rfl⟩))
          all_goals
            go_wp2
            go_ret
            exact ⟨rfl, (by refine Chg.isExt (F := []) ?_ (refl_ext _) (by simp); repeat (with_reducible (first | exact Chg.refl _ _ | exact Nat.le_refl _ | exact Chg.ofExt (by assumption) | refine Chg.trans0 ?_ (by assumption) | refine Chg.extS ?_ _ | refine Chg.alloc ?_ _ | refine Chg.drew ?_ | refine Chg.setCellE ?_ ?_ _ | refine le_addk ?_ _ | refine le_ext ?_ | refine le_alloc ?_ _ | refine le_setC ?_ _ _ | refine le_drew ?_ | assumption | (refine Nat.le_of_lt ?_; omega) | omega)))⟩
/-! the program's way: digits from the last to the first -/
def digs (n : Nat) (acc : List UInt8) : List UInt8 := dec n ++ acc
theorem dec_step {n : Nat} (h : ¬ n < 10) (acc : List UInt8) : dec n ++ acc = dec (n / 10) ++ (UInt8.ofNat (48 + n % 10) :: acc) := by rw [dec_big h]; simp
theorem u8_digit {r : Int} (h0 : 0 ≤ r) (h9 : r ≤ 9) : ((UInt8.ofNat (48 + r).toNat).toNat : Int) = 48 + r := by
  rw [UInt8.toNat_ofNat', Nat.mod_eq_of_lt (by omega)]
  omega
theorem fmt_neg {z : Int} {l : List UInt8} (h : z < 0) (e : l = dec z.natAbs) : (⟨#[45]⟩ : ByteArray) ++ ⟨l.toArray⟩ = decI z := by
  subst e
  unfold decI
  rw [if_pos h]
  exact bs_append [45] _
theorem fmt_pos {z : Int} {l : List UInt8} (h : 0 ≤ z) (e : l = dec z.natAbs) : (⟨l.toArray⟩ : ByteArray) = decI z := by
  subst e
  unfold decI
  rw [if_neg (by omega)]
  rfl
theorem fmt_last {m r : Int} (h : m.natAbs < 10) (hr : r = m.natAbs) (ds : List UInt8) : UInt8.ofNat (48 + r).toNat :: ds = dec m.natAbs ++ ds := by
  rw [dec_small h, show (48 + r).toNat = 48 + m.natAbs by omega]
  rfl
theorem fmt_more {m r q : Int} (h : ¬ m.natAbs < 10) (hr : r = m.natAbs % 10) (hq : q.natAbs = m.natAbs / 10) (ds : List UInt8) : dec q.natAbs ++ (UInt8.ofNat (48 + r).toNat :: ds) = dec m.natAbs ++ ds := by
  rw [dec_step h, hq, show (48 + r).toNat = 48 + m.natAbs % 10 by omega]
theorem tU : SlT Try.prog 22 5 1 1 (.int .u8 0) := ⟨Try.underlying22, by kernel_rfl, rfl, by omega⟩
set_option maxRecDepth 4000 in
set_option maxHeartbeats 1000000 in
theorem FormatInt_any {z : Int} {w : World} (h1 : -9223372036854775808 ≤ z) (h2 : z ≤ 9223372036854775807) :
    Calls Try.prog 24 #[.int .i64 z] w fun e w' => e = .returned (.string (decI z)) ∧ ∃ y, w' = ext w y := by
  go_enter Try.func24, Try.ntmps24
  go_wp2
  go_loopw [0, 3] (fun n v wr => ∃ (m : Int) (ds : List UInt8) (F : List Nat), n = .int .i64 m ∧ -9223372036854775808 ≤ m ∧ m ≤ 9223372036854775807 ∧ SV 5 1 sU wr v ds F ∧ (∀ b ∈ F, w.heap.size ≤ b) ∧ (∃ y, wr = ext w y) ∧ ds.length + (dec m.natAbs).length ≤ 20 ∧ dec m.natAbs ++ ds = dec z.natAbs) (fun n _ _ => (intOf n).natAbs)
  case atStart => exact ⟨z, [], [], rfl, h1, h2, SV.nil, by simp, refl_ext w, by have := dec_length 19 z.natAbs (by omega) (by omega); simp; omega, by simp⟩
  case round =>
    obtain ⟨m, ds, F, rfl, p1, p2, hS, hF, hx, hl, hj⟩ := hrel
    obtain ⟨A, cap, rfl, _, _, hV⟩ := hS.view sU_v
    have Hc := Lib.hid (hS.cap0)
    have Hj := Lib.hid hj
    have HF := Lib.hid hF
    have hds : ds.length ≤ 20 := by omega
    clear hj hF
    have hsz := size_of_ext hx
    by_cases c1 : m < 0
    · have e1 := neg_td (z := m) (by omega)
      have e2 := neg_tm (z := m) (by omega)
      have t1 : m.tdiv 10 ≤ 0 := by omega
      have t2 : -922337203685477580 ≤ m.tdiv 10 := by omega
      have t3 : m.tmod 10 ≤ 0 := by omega
      have t4 : -9 ≤ m.tmod 10 := by omega
      have t5 : (m.tdiv 10).natAbs = m.natAbs / 10 := by omega
      have t6 : (m.tmod 10).natAbs = m.natAbs % 10 := by omega
      have t7 : (m.tdiv 10).natAbs < m.natAbs := by omega
      clear e1 e2
      by_cases c4 : m.tmod 10 < 0
      · by_cases c3 : -10 < m
        · go_wp2_with (at_builtin; refine wpList_appL (E := sU) (V := vU) rfl _ _ _ rfl tU rfl (SV.fresh1 (d := UInt8.ofNat (48 + -m.tmod 10).toNat) _ ⟨by rw [u8_digit (by omega) (by omega)], rfl⟩) rfl (by exact Hc.out) (by exact hV.toExt (alloc_ext _ _)) vU_s vU_1 (by simp only [List.length_cons, List.length_nil]; omega) (by omega) ?_; intro v' w' F' hS' hC' hF'; obtain ⟨A', cap', rfl, _, _, hV'⟩ := hS'.view sU_v; have kc := convV (P := Try.prog) (c := cap') (n := ds.length + 1) Try.underlying22 Try.underlying5 Try.underlying9 (by simp) hV'; have ku : (ByteArray.mk ([UInt8.ofNat (48 + -m.tmod 10).toNat] ++ ds).toArray).size = ds.length + 1 := by simp [ByteArray.size])
          · go_ret
            exact ⟨by rw [← fmt_neg (by assumption) ((fmt_last (m := m) (r := -m.tmod 10) (by omega) (by omega) ds).trans Hj.out)]; rfl, hC'.isExt (trans_ext hx (alloc_ext _ _)) (fun x h => by rw [List.mem_singleton.1 h]; exact hsz)⟩
          · go_ret
            exact ⟨by rw [← fmt_pos (by assumption) ((fmt_last (m := m) (r := -m.tmod 10) (by omega) (by omega) ds).trans Hj.out)]; rfl, hC'.isExt (trans_ext hx (alloc_ext _ _)) (fun x h => by rw [List.mem_singleton.1 h]; exact hsz)⟩
        · go_wp2_with (at_builtin; refine wpList_appL (E := sU) (V := vU) rfl _ _ _ rfl tU rfl (SV.fresh1 (d := UInt8.ofNat (48 + -m.tmod 10).toNat) _ ⟨by rw [u8_digit (by omega) (by omega)], rfl⟩) rfl (by exact Hc.out) (by exact hV.toExt (alloc_ext _ _)) vU_s vU_1 (by simp only [List.length_cons, List.length_nil]; omega) (by omega) ?_; intro v' w' F' hS' hC' hF'; obtain ⟨A', cap', rfl, _, _, hV'⟩ := hS'.view sU_v; have kc := convV (P := Try.prog) (c := cap') (n := ds.length + 1) Try.underlying22 Try.underlying5 Try.underlying9 (by simp) hV'; have ku : (ByteArray.mk ([UInt8.ofNat (48 + -m.tmod 10).toNat] ++ ds).toArray).size = ds.length + 1 := by simp [ByteArray.size])
          have hF2 : ∀ b ∈ F', w.heap.size ≤ b := fun b hb => by
              rcases hF' b hb with h | h
              · rw [List.mem_singleton.1 h]; exact hsz
              · exact Nat.le_trans hsz (Nat.le_trans (by simp) h)
          have e := fmt_more (m := m) (r := -m.tmod 10) (q := m.tdiv 10) (by omega) (by omega) (by omega) ds
          have el := congrArg List.length e
          simp only [List.length_append, List.length_cons] at el
          exact ⟨⟨m.tdiv 10, UInt8.ofNat (48 + -m.tmod 10).toNat :: ds, F', rfl, by omega, by omega, by simpa using hS', hF2, hC'.isExt (trans_ext hx (alloc_ext _ _)) (fun x h => by rw [List.mem_singleton.1 h]; exact hsz), by simp only [List.length_cons]; omega, e.trans Hj.out⟩, by simpa [intOf] using t7⟩
      · have c5 : 0 ≤ m.tmod 10 := by omega
        by_cases c3 : -10 < m
        · exfalso; omega
        · go_wp2_with (at_builtin; refine wpList_appL (E := sU) (V := vU) rfl _ _ _ rfl tU rfl (SV.fresh1 (d := UInt8.ofNat (48 + m.tmod 10).toNat) _ ⟨by rw [u8_digit (by omega) (by omega)], rfl⟩) rfl (by exact Hc.out) (by exact hV.toExt (alloc_ext _ _)) vU_s vU_1 (by simp only [List.length_cons, List.length_nil]; omega) (by omega) ?_; intro v' w' F' hS' hC' hF'; obtain ⟨A', cap', rfl, _, _, hV'⟩ := hS'.view sU_v; have kc := convV (P := Try.prog) (c := cap') (n := ds.length + 1) Try.underlying22 Try.underlying5 Try.underlying9 (by simp) hV'; have ku : (ByteArray.mk ([UInt8.ofNat (48 + m.tmod 10).toNat] ++ ds).toArray).size = ds.length + 1 := by simp [ByteArray.size])
          have hF2 : ∀ b ∈ F', w.heap.size ≤ b := fun b hb => by
              rcases hF' b hb with h | h
              · rw [List.mem_singleton.1 h]; exact hsz
              · exact Nat.le_trans hsz (Nat.le_trans (by simp) h)
          have e := fmt_more (m := m) (r := m.tmod 10) (q := m.tdiv 10) (by omega) (by omega) (by omega) ds
          have el := congrArg List.length e
          simp only [List.length_append, List.length_cons] at el
          exact ⟨⟨m.tdiv 10, UInt8.ofNat (48 + m.tmod 10).toNat :: ds, F', rfl, by omega, by omega, by simpa using hS', hF2, hC'.isExt (trans_ext hx (alloc_ext _ _)) (fun x h => by rw [List.mem_singleton.1 h]; exact hsz), by simp only [List.length_cons]; omega, e.trans Hj.out⟩, by simpa [intOf] using t7⟩
    · have c2 : 0 ≤ m := by omega
      clear c1
      by_cases c3 : m < 10
      · go_wp2_with (at_builtin; refine wpList_appL (E := sU) (V := vU) rfl _ _ _ rfl tU rfl (SV.fresh1 (d := UInt8.ofNat (48 + m % 10).toNat) _ ⟨by rw [u8_digit (by omega) (by omega)], rfl⟩) rfl (by exact Hc.out) (by exact hV.toExt (alloc_ext _ _)) vU_s vU_1 (by simp only [List.length_cons, List.length_nil]; omega) (by omega) ?_; intro v' w' F' hS' hC' hF'; obtain ⟨A', cap', rfl, _, _, hV'⟩ := hS'.view sU_v; have kc := convV (P := Try.prog) (c := cap') (n := ds.length + 1) Try.underlying22 Try.underlying5 Try.underlying9 (by simp) hV'; have ku : (ByteArray.mk ([UInt8.ofNat (48 + m % 10).toNat] ++ ds).toArray).size = ds.length + 1 := by simp [ByteArray.size])
        · go_ret
          exact ⟨by rw [← fmt_neg (by assumption) ((fmt_last (m := m) (r := m % 10) (by omega) (by omega) ds).trans Hj.out)]; rfl, hC'.isExt (trans_ext hx (alloc_ext _ _)) (fun x h => by rw [List.mem_singleton.1 h]; exact hsz)⟩
        · go_ret
          exact ⟨by rw [← fmt_pos (by assumption) ((fmt_last (m := m) (r := m % 10) (by omega) (by omega) ds).trans Hj.out)]; rfl, hC'.isExt (trans_ext hx (alloc_ext _ _)) (fun x h => by rw [List.mem_singleton.1 h]; exact hsz)⟩
      · go_wp2_with (at_builtin; refine wpList_appL (E := sU) (V := vU) rfl _ _ _ rfl tU rfl (SV.fresh1 (d := UInt8.ofNat (48 + m % 10).toNat) _ ⟨by rw [u8_digit (by omega) (by omega)], rfl⟩) rfl (by exact Hc.out) (by exact hV.toExt (alloc_ext _ _)) vU_s vU_1 (by simp only [List.length_cons, List.length_nil]; omega) (by omega) ?_; intro v' w' F' hS' hC' hF'; obtain ⟨A', cap', rfl, _, _, hV'⟩ := hS'.view sU_v; have kc := convV (P := Try.prog) (c := cap') (n := ds.length + 1) Try.underlying22 Try.underlying5 Try.underlying9 (by simp) hV'; have ku : (ByteArray.mk ([UInt8.ofNat (48 + m % 10).toNat] ++ ds).toArray).size = ds.length + 1 := by simp [ByteArray.size])
        have hF2 : ∀ b ∈ F', w.heap.size ≤ b := fun b hb => by
            rcases hF' b hb with h | h
            · rw [List.mem_singleton.1 h]; exact hsz
            · exact Nat.le_trans hsz (Nat.le_trans (by simp) h)
        have e := fmt_more (m := m) (r := m % 10) (q := m / 10) (by omega) (by omega) (by omega) ds
        have el := congrArg List.length e
        simp only [List.length_append, List.length_cons] at el
        exact ⟨⟨m / 10, UInt8.ofNat (48 + m % 10).toNat :: ds, F', rfl, by omega, by omega, by simpa using hS', hF2, hC'.isExt (trans_ext hx (alloc_ext _ _)) (fun x h => by rw [List.mem_singleton.1 h]; exact hsz), by simp only [List.length_cons]; omega, e.trans Hj.out⟩, by simp [intOf]; omega⟩
end Go.Proofs.Ythhdmdmjadpgjaa
