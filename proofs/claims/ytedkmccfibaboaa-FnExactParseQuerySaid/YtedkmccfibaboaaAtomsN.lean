/- The laws' helpers on lists of atoms: the size, a copy, equality, marks written. -/
import Derived.Test.YtedkmccfibaboaaAtom
import Derived.Test.YtedkmccfibaboaaRowsD
import Derived.Test.YtedkmccfibaboaaBox3
import Derived.Test.YtedkmccfibaboaaDec
import Derived.Test.YtedkmccfibaboaaBytes
namespace Go.Proofs.Ytedkmccfibaboaa
open Go.RowKit

abbrev At := ByteArray × List Int
theorem conv1m (w : World) (b o cap : Nat) (n : Int) (h : w.cell? ⟨b, o, none⟩ = some (.int .u8 n)) : (convert 31 9 (.slice (some ⟨b, o, none⟩) 1 cap)).run Try.prog w = .ok (.string (bs [UInt8.ofNat n.toNat])) w :=
  run_convert_bytes_arg w _ _ Try.underlying31 Try.underlying5 b o 1 cap [n] rfl (fun i hi => by
    have : i = 0 := by omega
    subst this
    simpa using h) _ Try.underlying9
def mtx (k : Int) : ByteArray := if k ≤ 0 then ⟨#[109, 48]⟩ else bs (109 :: dec k.toNat)
set_option maxHeartbeats 1000000 in
theorem markText_any {k : Int} {w : World} (hk : k ≤ 100000000000) :
    Calls Try.prog 53 #[.int .i64 k] w fun e w' => e = .returned (.string (mtx k)) ∧ ∃ y, w' = ext w y := by
  by_cases h0 : k ≤ 0
  · rw [show mtx k = ⟨#[109, 48]⟩ by unfold mtx; rw [if_pos h0]]
    go_enter Try.func53, Try.ntmps53
    go_wp2
    go_ret
    exact ⟨rfl, refl_ext w⟩
  · rw [show mtx k = bs (109 :: dec k.toNat) by unfold mtx; rw [if_neg h0]]
    have kc := conv1m
    obtain ⟨D, hD⟩ : ∃ D, dec k.toNat = D := ⟨_, rfl⟩
    have hl : D.length ≤ 20 := by rw [← hD]; have := dec_length 19 k.toNat (by omega) (by omega); omega
    rw [hD]
    go_enter Try.func53, Try.ntmps53
    go_wp2
    go_loopw [0, 3] (fun m v wr => ∃ (n : Nat) (acc : List UInt8), m = .int .i64 n ∧ v = .string (bs acc) ∧ n ≤ 100000000000 ∧ (if n = 0 then acc else dec n ++ acc) = D ∧ acc.length ≤ 20 ∧ ∃ y, wr = ext w y) (fun m _ _ => (intOf m).toNat)
    case atStart => exact ⟨k.toNat, [], by congr 1; omega, rfl, by omega, by rw [if_neg (by omega)]; simpa using hD, by simp, refl_ext w⟩
    case round =>
      obtain ⟨n, acc, rfl, rfl, hn, hj, ha, hy⟩ := hrel
      have Hj := Lib.hid hj
      clear hj hD
      by_cases hp : 0 < n
      · have hp' : (0 : Int) < n := by omega
        have hp2 : (0 : Int) ≤ n := by omega
        have hsz : (bs acc).size ≤ 20 := by rw [bs_size]; exact ha
        have hs1 : (bs [48 + UInt8.ofNat (n % 10)]).size = 1 := bs_size _
        have HA := Lib.hid (bs_append [48 + UInt8.ofNat (n % 10)] acc)
        have hjo := Hj.out
        rw [if_neg (by omega : ¬ n = 0)] at hjo
        have hd : UInt8.ofNat (48 + n % 10) = 48 + UInt8.ofNat (n % 10) := UInt8.ofNat_add _ _
        have HE := Lib.hid (show (if n / 10 = 0 then (48 + UInt8.ofNat (n % 10)) :: acc else dec (n / 10) ++ ((48 + UInt8.ofNat (n % 10)) :: acc)) = D by
          rw [← hjo, ← hd]
          by_cases h10 : n < 10
          · rw [if_pos (by omega), dec_small h10, show n % 10 = n by omega]
            rfl
          · rw [if_neg (by omega), dec_big h10]
            simp)
        have hal : acc.length + 1 ≤ D.length := by
          rw [← hjo, List.length_append]
          have := List.length_pos_iff.2 (dec_ne n)
          omega
        clear hjo hd
        go_wp2
        exact ⟨⟨n / 10, (48 + UInt8.ofNat (n % 10)) :: acc, by congr 1, by rw [HA.out]; rfl, by omega, HE.out, by simp only [List.length_cons]; omega, (by refine Chg.isExt (F := []) ?_ (refl_ext _) (by simp); repeat (with_reducible (first | exact Chg.refl _ _ | exact Nat.le_refl _ | exact Chg.ofExt (by assumption) | refine Chg.trans0 ?_ (by assumption) | refine Chg.extS ?_ _ | refine Chg.alloc ?_ _ | refine Chg.drew ?_ | refine Chg.setCellE ?_ ?_ _ | refine le_addk ?_ _ | refine le_ext ?_ | refine le_alloc ?_ _ | refine le_setC ?_ _ _ | refine le_drew ?_ | assumption | (refine Nat.le_of_lt ?_; omega) | omega)))⟩, by simp [intOf]; omega⟩
      · have e0 : n = 0 := by omega
        subst e0
        have hsz : (bs acc).size ≤ 20 := by rw [bs_size]; exact ha
        have hs1 : (ByteArray.mk #[109]).size = 1 := rfl
        have e := Hj.out
        rw [if_pos rfl] at e
        have He := Lib.hid e
        clear e
        go_wp2
        go_ret
        exact ⟨by rw [← He.out, show (109 :: acc) = [109] ++ acc from rfl, ← bs_append]; rfl, hy⟩
abbrev vAt : VE At := vP 1 vS (vSl 1 vI)
abbrev sAt : SE At := sP 1 sS (sSl 3 1 sI)
abbrev vAts : VE (List At) := vSl 2 vAt
abbrev sAts : SE (List At) := sSl 43 2 sAt
theorem sAt_v {w : World} (c : List Value) (d : At) (F : List Nat) (h : sAt w c d F) : vAt w c d := sP_v sS_v (sSl_v sI_v) c d F h
theorem sAts_v {w : World} (c : List Value) (d : List At) (F : List Nat) (h : sAts w c d F) : vAts w c d := sSl_v sAt_v c d F h
def QAt (d : At) : Prop := d.1.size ≤ maxLen ∧ d.2.length ≤ maxLen
def QAts (d : List At) : Prop := d.length ≤ maxLen ∧ ∀ x ∈ d, QAt x
def cAt (x : At) : Nat := x.1.size + x.2.length
def BAts (d : List At) : Prop := d.length ≤ 1048576 ∧ (d.map cAt).sum ≤ 1048576
theorem BAts.each {d : List At} (h : BAts d) : ∀ x ∈ d, x.1.size ≤ 1048576 ∧ x.2.length ≤ 1048576 := fun x hx => by
  have h1 := sum_each (c := cAt) hx
  have h2 := h.2
  unfold cAt at h1 h2
  omega
def szAt (l : Int) (x : At) : Int := szA l x.1.size x.2.length
theorem szAt_sub (l : Int) (x : At) (h : 0 ≤ szAt l x) : szAt l x ≤ l - cAt x := by
  unfold szAt szA at h ⊢
  split at h
  · omega
  · rename_i h1
    rw [if_neg h1]
    have := szL_sub h
    unfold cAt
    omega
theorem szAts_le {left : Int} {xs : List At} (h : 0 ≤ szN szAt left xs) : szN szAt left xs ≤ left := szN_le (fun l x h => by have := szAt_sub l x h; omega) h
theorem szAts_small {left : Int} {xs : List At} (h : 0 ≤ szN szAt left xs) (hl : left ≤ 1048576) : BAts xs := by
  have := szN_small (c := cAt) szAt_sub h
  exact ⟨by omega, by omega⟩
theorem RV.atA {w : World} {A : Option Addr} {d : List At} {k : Nat} (h : RV 2 vAt w A d) (hk : k < d.length) : ∃ b o A' c', A = some ⟨b, o, none⟩ ∧ b < w.heap.size ∧ w.cell? ⟨b, o + k * 2, none⟩ = some (.string d[k].1) ∧ w.cell? ⟨b, o + k * 2 + 1, none⟩ = some (.slice A' d[k].2.length c') ∧ RI w A' d[k].2 := by
  obtain ⟨b, o, h1, h2, c, hc, hr, c0, c1, e, _, hs, A', c', rfl, hv⟩ := h.get hk
  simp only [vS] at hs
  subst hs e
  exact ⟨b, o, A', _, h1, h2, by simpa using hr 0 (by simp), by simpa using hr 1 (by simp), hv⟩
theorem vAts_get {w : World} {A : Option Addr} {n c : Nat} {d : List At} (h : vAts w [.slice A n c] d) : n = d.length ∧ RV 2 vAt w A d := by
  obtain ⟨A', c', e, h⟩ := h
  injection e with e
  injection e with e1 e2 e3
  subst e1
  exact ⟨e2, h⟩
theorem tA : SlT Try.prog 22 43 2 40 (.agg #[.string ⟨#[]⟩, .slice none 0 0]) := ⟨Try.underlying22, by kernel_rfl, rfl, by omega⟩
theorem sAts_form {w : World} {v : Value} {d : List At} {F : List Nat} (h : sAts w [v] d F) : ∃ A c, v = .slice A d.length c := by
  obtain ⟨v', e, h⟩ := h
  injection e with e
  subst e
  obtain ⟨A, c, e, _⟩ := h.form
  exact ⟨A, c, e⟩
set_option maxHeartbeats 1000000 in
theorem eqAtomS_d {A A' : Option Addr} {c c' : Nat} {d d' : List At} {w : World} (hb : BAts d) (h : vAts w [.slice A d.length c] d) (hb' : BAts d') (h' : vAts w [.slice A' d'.length c'] d') :
    Calls Try.prog 25 #[.slice A d.length c, .slice A' d'.length c'] w fun e w' => e = .returned (.bool (decide (d = d'))) ∧ ∃ y, w' = ext w y := by
  have hx := hb.1
  have hy := hb'.1
  have Hxl := Lib.hid hb.each
  have Hyl := Lib.hid hb'.each
  have h1 := (vAts_get h).2
  have h2 := (vAts_get h').2
  clear hb hb' h h'
  by_cases hl : d.length = d'.length
  · have hn : ((d.length : Int) != (d'.length : Int)) = false := by simp [hl]
    have hl2 : d'.length ≤ d.length := by omega
    have hl3 : d.length ≤ d'.length := by omega
    have HL := Lib.hid hl
    clear hl
    go_enter Try.func25, Try.ntmps25
    go_wp2
    go_loopw [5] (fun i wr => ∃ k : Nat, i = .int .i64 k ∧ k ≤ d.length ∧ d.take k = d'.take k ∧ ∃ y, wr = ext w y) (fun i _ => d.length - (intOf i).toNat)
    case atStart => exact ⟨0, rfl, by omega, by simp, refl_ext w⟩
    case round =>
      obtain ⟨k, rfl, hk, ht, hw⟩ := hrel
      have Ht := Lib.hid ht
      clear ht
      by_cases hlt : k < d.length
      · have hlt2 : k < d'.length := by omega
        obtain ⟨b, o, A1, c1, rfl, hb, hc, hd, hv⟩ := (h1.toExt hw).atA hlt
        obtain ⟨b', o', A2, c2, rfl, hb', hc', hd', hv'⟩ := (h2.toExt hw).atA hlt2
        have q1 : d[k].2.length ≤ 1000000000 := by have := (Hxl.out d[k] (List.getElem_mem hlt)).2; omega
        have q2 : d'[k].2.length ≤ 1000000000 := by have := (Hyl.out d'[k] (List.getElem_mem hlt2)).2; omega
        by_cases he : d[k] = d'[k]
        · have He := Lib.hid he
          have Hd := Lib.hid (show decide ((d[k].1, d[k].2) = (d'[k].1, d'[k].2)) = true by simp [he])
          clear he
          go_wp2
          refine wp_region_ext (by kernel_rfl) (by kernel_rfl) ?_
          repeat (go_big_quiet_step ((go_at_call 52; exact quietEb (eqAtom_any q1 hv.ext q2 hv'.ext) Hd.out)))
          refine wpQuiet_nil ?_
          rintro _ ⟨z, rfl⟩
          go_wp2
          exact ⟨⟨k + 1, by go_num, by omega, take_snoc_eq _ _ Ht.out He.out, (by refine Chg.isExt (F := []) ?_ (refl_ext _) (by simp); repeat (with_reducible (first | exact Chg.refl _ _ | exact Nat.le_refl _ | exact Chg.ofExt (by assumption) | refine Chg.trans0 ?_ (by assumption) | refine Chg.extS ?_ _ | refine Chg.alloc ?_ _ | refine Chg.drew ?_ | refine Chg.setCellE ?_ ?_ _ | refine le_addk ?_ _ | refine le_ext ?_ | refine le_alloc ?_ _ | refine le_setC ?_ _ _ | refine le_drew ?_ | assumption | (refine Nat.le_of_lt ?_; omega) | omega)))⟩, by simp [intOf]; omega⟩
        · have He := Lib.hid he
          have Hd := Lib.hid (show decide ((d[k].1, d[k].2) = (d'[k].1, d'[k].2)) = false from decide_eq_false he)
          clear he
          go_wp2
          refine wp_region_ext (by kernel_rfl) (by kernel_rfl) ?_
          repeat (go_big_quiet_step ((go_at_call 52; exact quietEb (eqAtom_any q1 hv.ext q2 hv'.ext) Hd.out)))
          refine wpQuiet_nil ?_
          rintro _ ⟨z, rfl⟩
          go_wp2
          go_ret
          exact ⟨by rw [decide_eq_false (ne_of_at hlt hlt2 He.out)]; rfl, (by refine Chg.isExt (F := []) ?_ (refl_ext _) (by simp); repeat (with_reducible (first | exact Chg.refl _ _ | exact Nat.le_refl _ | exact Chg.ofExt (by assumption) | refine Chg.trans0 ?_ (by assumption) | refine Chg.extS ?_ _ | refine Chg.alloc ?_ _ | refine Chg.drew ?_ | refine Chg.setCellE ?_ ?_ _ | refine le_addk ?_ _ | refine le_ext ?_ | refine le_alloc ?_ _ | refine le_setC ?_ _ _ | refine le_drew ?_ | assumption | (refine Nat.le_of_lt ?_; omega) | omega)))⟩
      · go_wp2
        go_ret
        exact ⟨by rw [decide_eq_true (all_eq HL.out hlt Ht.out)]; rfl, hw⟩
  · have hn : ((d.length : Int) != (d'.length : Int)) = true := by simp; omega
    go_enter Try.func25, Try.ntmps25
    go_wp2
    go_ret
    exact ⟨by rw [decide_eq_false (by rintro rfl; exact hl rfl)]; rfl, refl_ext w⟩
end Go.Proofs.Ytedkmccfibaboaa
