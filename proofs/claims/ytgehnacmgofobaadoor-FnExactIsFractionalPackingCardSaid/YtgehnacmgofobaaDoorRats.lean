/- Contracts of the laws' helpers on []Rational, and the two equalities of lists of rationals. -/
import Derived.Test.YtgehnacmgofobaaDoorInts
namespace Go.Proofs.YtgehnacmgofobaaDoor
open Go.RowKit

theorem tR : SlT Tryd.prog 34 47 2 16 (.agg #[.int .i64 0, .int .i64 0]) := ⟨Tryd.underlying34, by kernel_rfl, rfl, by omega⟩
theorem szRationalS_any {A : Option Addr} {n c : Nat} {left : Int} {w : World} (hn : n ≤ 9223372036854775807) (h1 : 0 ≤ left) (h2 : left ≤ 1000000000) :
    Calls Tryd.prog 6 #[.slice A n c, .int .i64 left] w fun e w' => e = .returned (.int .i64 (szL left n)) ∧ ∃ y, w' = ext w y := by
  unfold szL
  by_cases h : left - n < 0
  · rw [if_pos h]
    go_enter Tryd.func6, Tryd.ntmps6
    go_wp2
    go_ret
    exact ⟨rfl, refl_ext w⟩
  · rw [if_neg h]
    go_enter Tryd.func6, Tryd.ntmps6
    go_wp2
    go_ret
    exact ⟨rfl, refl_ext w⟩

theorem toRational_any {a b : Int} {w : World} :
    Calls Tryd.prog 24 #[.agg #[.int .i64 a, .int .i64 b]] w fun e w' => e = .returned (.agg #[.int .i64 a, .int .i64 b]) ∧ ∃ y, w' = ext w y := by
  go_enter Tryd.func24, Tryd.ntmps24
  go_wp2
  exact bodyPost_ret (v := .agg #[.int .i64 a, .int .i64 b]) (by simp [results, Tryd.results24, go_sem]) rfl ⟨rfl, (by refine Chg.isExt (F := []) ?_ (refl_ext _) (by simp); repeat (with_reducible (first | exact Chg.refl _ _ | exact Nat.le_refl _ | exact Chg.ofExt (by assumption) | refine Chg.trans0 ?_ (by assumption) | refine Chg.extS ?_ _ | refine Chg.alloc ?_ _ | refine Chg.drew ?_ | refine Chg.setCellE ?_ ?_ _ | refine le_addk ?_ _ | refine le_ext ?_ | refine le_alloc ?_ _ | refine le_setC ?_ _ _ | refine le_drew ?_ | assumption | (refine Nat.le_of_lt ?_; omega) | omega)))⟩

set_option maxHeartbeats 800000 in
theorem toRationalS_any {A : Option Addr} {c : Nat} {xs : List (Int × Int)} {w : World} (hx : xs.length ≤ 1048576) (h1 : RR w A xs) :
    Calls Tryd.prog 9 #[.slice A xs.length c] w fun e w' => ∃ v F, e = .returned v ∧ (∃ y, w' = ext w y) ∧ SV 47 2 sR w' v xs F ∧ ∀ b ∈ F, w.heap.size ≤ b := by
  go_enter Tryd.func9, Tryd.ntmps9
  go_wp2_with (at_make; refine wpList_makeS (E := sR) (d := (0, 0)) _ rfl _ _ _ rfl tR rfl rfl (fun _ => ⟨rfl, rfl⟩) (by omega) (by omega) ?_; intro w1 hS hx1 hg1)
  go_loopw [4] (fun i wr => ∃ k : Nat, i = .int .i64 k ∧ k ≤ xs.length ∧ SV 47 2 sR wr (.slice (some ⟨w.heap.size, 0, none⟩) xs.length xs.length) (xs.take k ++ List.replicate (xs.length - k) (0, 0)) [w.heap.size] ∧ ∃ y, wr = ext w y) (fun i _ => xs.length - (intOf i).toNat)
  case atStart => exact ⟨0, rfl, by omega, by simpa using hS, hx1⟩
  case round =>
    obtain ⟨k, rfl, hk, hSk, y, rfl⟩ := hrel
    by_cases hlt : k < xs.length
    · obtain ⟨b, o, rfl, hb, hc, hc2⟩ := h1.atR hlt
      have hlen : (xs.take k ++ List.replicate (xs.length - k) (0, 0)).length = xs.length := by simp; omega
      clear hS hx1
      go_wp2_with (go_at_call 24; refine toRational_any.mono ?_; rintro e w2 ⟨rfl, hx2⟩; have HS := Lib.hid (hSk.toExt hx2); have Hc := HS.out.cell hlen (j := k * 2) (by omega); have Hd := HS.out.cell hlen (j := k * 2 + 1) (by omega); obtain ⟨⟨u, hu⟩, hf, hg⟩ := Hc; obtain ⟨⟨u', hu'⟩, hf', _⟩ := Hd; obtain ⟨y2, rfl⟩ := trans_ext ⟨y, rfl⟩ hx2; clear hSk hx2)
      obtain ⟨h3, h4⟩ := HS.out.set2 hlen (k := k) (by omega) (u := .int .i64 xs[k].1) (v := .int .i64 xs[k].2) (d := xs[k]) (fun _ => ⟨rfl, rfl⟩)
      refine ⟨⟨k + 1, by go_num, by omega, ?_, h4.isExt ⟨_, rfl⟩ (by simp)⟩, by simp [intOf]; omega⟩
      rwa [set_fill hlt] at h3
    · go_wp2
      go_ret
      refine ⟨_, _, rfl, ⟨y, rfl⟩, ?_, fun b hb => by rw [List.mem_singleton.1 hb]; exact Nat.le_refl _⟩
      rwa [List.take_of_length_le (by omega), show xs.length - k = 0 by omega, List.replicate_zero, List.append_nil] at hSk
theorem eqRational_any {a b c d : Int} {w : World} :
    Calls Tryd.prog 32 #[.agg #[.int .i64 a, .int .i64 b], .agg #[.int .i64 c, .int .i64 d]] w fun e w' => e = .returned (.bool (decide ((a, b) = (c, d)))) ∧ ∃ y, w' = ext w y := by
  by_cases h1 : a = c
  · have e1 : (a != c) = false := by simp [h1]
    by_cases h2 : b = d
    · have e2 : (b != d) = false := by simp [h2]
      have H := Lib.hid (show decide ((a, b) = (c, d)) = true by simp [h1, h2])
      clear h1 h2
      go_enter Tryd.func32, Tryd.ntmps32
      go_wp2
      go_ret
      exact ⟨by rw [H.out]; rfl, (by refine Chg.isExt (F := []) ?_ (refl_ext _) (by simp); repeat (with_reducible (first | exact Chg.refl _ _ | exact Nat.le_refl _ | exact Chg.ofExt (by assumption) | refine Chg.trans0 ?_ (by assumption) | refine Chg.extS ?_ _ | refine Chg.alloc ?_ _ | refine Chg.drew ?_ | refine Chg.setCellE ?_ ?_ _ | refine le_addk ?_ _ | refine le_ext ?_ | refine le_alloc ?_ _ | refine le_setC ?_ _ _ | refine le_drew ?_ | assumption | (refine Nat.le_of_lt ?_; omega) | omega)))⟩
    · have e2 : (b != d) = true := by simp [h2]
      have H := Lib.hid (show decide ((a, b) = (c, d)) = false by simp [h2])
      clear h1 h2
      go_enter Tryd.func32, Tryd.ntmps32
      go_wp2
      go_ret
      exact ⟨by rw [H.out]; rfl, (by refine Chg.isExt (F := []) ?_ (refl_ext _) (by simp); repeat (with_reducible (first | exact Chg.refl _ _ | exact Nat.le_refl _ | exact Chg.ofExt (by assumption) | refine Chg.trans0 ?_ (by assumption) | refine Chg.extS ?_ _ | refine Chg.alloc ?_ _ | refine Chg.drew ?_ | refine Chg.setCellE ?_ ?_ _ | refine le_addk ?_ _ | refine le_ext ?_ | refine le_alloc ?_ _ | refine le_setC ?_ _ _ | refine le_drew ?_ | assumption | (refine Nat.le_of_lt ?_; omega) | omega)))⟩
  · have e1 : (a != c) = true := by simp [h1]
    have H := Lib.hid (show decide ((a, b) = (c, d)) = false by simp [h1])
    clear h1
    go_enter Tryd.func32, Tryd.ntmps32
    go_wp2
    go_ret
    exact ⟨by rw [H.out]; rfl, (by refine Chg.isExt (F := []) ?_ (refl_ext _) (by simp); repeat (with_reducible (first | exact Chg.refl _ _ | exact Nat.le_refl _ | exact Chg.ofExt (by assumption) | refine Chg.trans0 ?_ (by assumption) | refine Chg.extS ?_ _ | refine Chg.alloc ?_ _ | refine Chg.drew ?_ | refine Chg.setCellE ?_ ?_ _ | refine le_addk ?_ _ | refine le_ext ?_ | refine le_alloc ?_ _ | refine le_setC ?_ _ _ | refine le_drew ?_ | assumption | (refine Nat.le_of_lt ?_; omega) | omega)))⟩

set_option maxHeartbeats 400000 in
theorem eqRationalS_any {A A' : Option Addr} {c c' : Nat} {xs ys : List (Int × Int)} {w : World} (hx : xs.length ≤ 1000000000) (h1 : RR w A xs) (hy : ys.length ≤ 1000000000) (h2 : RR w A' ys) :
    Calls Tryd.prog 12 #[.slice A xs.length c, .slice A' ys.length c'] w fun e w' => e = .returned (.bool (decide (xs = ys))) ∧ ∃ y, w' = ext w y := by
  by_cases hl : xs.length = ys.length
  · have hn : ((xs.length : Int) != (ys.length : Int)) = false := by simp [hl]
    go_enter Tryd.func12, Tryd.ntmps12
    go_wp2
    go_loopw [5] (fun i wr => ∃ k : Nat, i = .int .i64 k ∧ k ≤ xs.length ∧ xs.take k = ys.take k ∧ ∃ y, wr = ext w y) (fun i _ => xs.length - (intOf i).toNat)
    case atStart => exact ⟨0, rfl, by omega, by simp, refl_ext w⟩
    case round =>
      obtain ⟨k, rfl, hk, ht, y, rfl⟩ := hrel
      have Ht := Lib.hid ht
      clear ht
      by_cases hlt : k < xs.length
      · obtain ⟨b, o, rfl, hb, hc, hd⟩ := h1.atR hlt
        obtain ⟨b', o', rfl, hb', hc', hd'⟩ := h2.atR (k := k) (by omega)
        by_cases he : xs[k] = ys[k]
        · have He := Lib.hid he
          go_wp2
          refine wp_region_ext (by kernel_rfl) (by kernel_rfl) ?_
          repeat (go_big_quiet_step ((go_at_call 32; exact quietE eqRational_any)))
          refine wpQuiet_nil ?_
          rintro _ ⟨z, rfl⟩
          go_wp2
          exact ⟨⟨k + 1, by go_num, by omega, take_snoc_eq _ _ Ht.out He.out, _, ext_ext⟩, by simp [intOf]; omega⟩
        · have He := Lib.hid he
          go_wp2
          refine wp_region_ext (by kernel_rfl) (by kernel_rfl) ?_
          repeat (go_big_quiet_step ((go_at_call 32; exact quietE eqRational_any)))
          refine wpQuiet_nil ?_
          rintro _ ⟨z, rfl⟩
          go_wp2
          go_ret
          exact ⟨by rw [decide_eq_false (ne_of_at hlt (by omega) He.out)]; rfl, _, ext_ext⟩
      · go_wp2
        go_ret
        exact ⟨by rw [decide_eq_true (all_eq hl hlt Ht.out)]; rfl, y, rfl⟩
  · have hn : ((xs.length : Int) != (ys.length : Int)) = true := by simp; omega
    go_enter Tryd.func12, Tryd.ntmps12
    go_wp2
    go_ret
    exact ⟨by rw [decide_eq_false (by rintro rfl; exact hl rfl)]; rfl, refl_ext w⟩

end Go.Proofs.YtgehnacmgofobaaDoor
