/- Contracts of the laws' helpers on []Rational, and the two equalities of lists of rationals. -/
import Derived.Test.YthhdmdmjadpgjaaInts
namespace Go.Proofs.Ythhdmdmjadpgjaa
open Go.RowKit

theorem tR : SlT Try.prog 31 25 2 16 (.agg #[.int .i64 0, .int .i64 0]) := ⟨Try.underlying31, by kernel_rfl, rfl, by omega⟩
set_option maxHeartbeats 400000 in
theorem EqualRationals_any {A A' : Option Addr} {c c' : Nat} {xs ys : List (Int × Int)} {w : World} (hx : xs.length ≤ 1000000000) (h1 : RR w A xs) (hy : ys.length ≤ 1000000000) (h2 : RR w A' ys) :
    Calls Try.prog 18 #[.slice A xs.length c, .slice A' ys.length c'] w fun e w' => e = .returned (.bool (decide (xs = ys))) ∧ ∃ y, w' = ext w y := by
  by_cases hl : xs.length = ys.length
  · have hn : ((xs.length : Int) != (ys.length : Int)) = false := by simp [hl]
    go_enter Try.func18, Try.ntmps18
    go_wp2
    go_loopw [13] (fun i wr => ∃ k : Nat, i = .int .i64 k ∧ k ≤ xs.length ∧ xs.take k = ys.take k ∧ ∃ y, wr = ext w y) (fun i _ => xs.length - (intOf i).toNat)
    case atStart => exact ⟨0, rfl, by omega, by simp, refl_ext w⟩
    case round =>
      obtain ⟨k, rfl, hk, ht, y, rfl⟩ := hrel
      have Ht := Lib.hid ht
      clear ht
      by_cases hlt : k < xs.length
      · obtain ⟨b, o, rfl, hb, hc, hd⟩ := h1.atR hlt
        obtain ⟨b', o', rfl, hb', hc', hd'⟩ := h2.atR (k := k) (by omega)
        by_cases he : xs[k] = ys[k]
        · have He := Lib.hid he
          have hq : xs[k].1 = ys[k].1 ∧ xs[k].2 = ys[k].2 := by rw [he]; exact ⟨rfl, rfl⟩
          obtain ⟨hq1, hq2⟩ := hq
          clear he
          go_wp2
          refine wp_region_ext (by kernel_rfl) (by kernel_rfl) ?_
          repeat (go_big_quiet_step (fail))
          refine wpQuiet_nil ?_
          rintro _ ⟨z, rfl⟩
          go_wp2
          exact ⟨⟨k + 1, by go_num, by omega, take_snoc_eq _ _ Ht.out He.out, _, ext_ext⟩, by simp [intOf]; omega⟩
        · have He := Lib.hid he
          have hq : (xs[k].1 == ys[k].1) = false ∨ (xs[k].1 == ys[k].1) = true ∧ (xs[k].2 == ys[k].2) = false := by
            by_cases h : xs[k].1 = ys[k].1
            · exact .inr ⟨by simp [h], by simp; exact fun h2 => he (Prod.ext h h2)⟩
            · exact .inl (by simp [h])
          clear he
          rcases hq with hq1 | ⟨hq1, hq2⟩
          all_goals
            go_wp2
            refine wp_region_ext (by kernel_rfl) (by kernel_rfl) ?_
            repeat (go_big_quiet_step (fail))
            refine wpQuiet_nil ?_
            rintro _ ⟨z, rfl⟩
            go_wp2
            go_ret
            exact ⟨by rw [decide_eq_false (ne_of_at hlt (by omega) He.out)]; rfl, _, ext_ext⟩
      · go_wp2
        go_ret
        exact ⟨by rw [decide_eq_true (all_eq hl hlt Ht.out)]; rfl, y, rfl⟩
  · have hn : ((xs.length : Int) != (ys.length : Int)) = true := by simp; omega
    go_enter Try.func18, Try.ntmps18
    go_wp2
    go_ret
    exact ⟨by rw [decide_eq_false (by rintro rfl; exact hl rfl)]; rfl, refl_ext w⟩

set_option maxHeartbeats 400000 in
theorem specEqualRationals_any {A A' : Option Addr} {c c' : Nat} {xs ys : List (Int × Int)} {w : World} (hx : xs.length ≤ 1000000000) (h1 : RR w A xs) (hy : ys.length ≤ 1000000000) (h2 : RR w A' ys) :
    Calls Try.prog 17 #[.slice A xs.length c, .slice A' ys.length c'] w fun e w' => e = .returned (.bool (decide (xs = ys))) ∧ ∃ y, w' = ext w y := by
  by_cases hl : xs.length = ys.length
  · have hn : ((xs.length : Int) != (ys.length : Int)) = false := by simp [hl]
    go_enter Try.func17, Try.ntmps17
    go_wp2
    go_loopw [5] (fun i wr => ∃ k : Nat, i = .int .i64 k ∧ k ≤ xs.length ∧ xs.take k = ys.take k ∧ ∃ y, wr = ext w y) (fun i _ => xs.length - (intOf i).toNat)
    case atStart => exact ⟨0, rfl, by omega, by simp, refl_ext w⟩
    case round =>
      obtain ⟨k, rfl, hk, ht, y, rfl⟩ := hrel
      have Ht := Lib.hid ht
      clear ht
      by_cases hlt : k < xs.length
      · obtain ⟨b, o, rfl, hb, hc, hd⟩ := h1.atR hlt
        obtain ⟨b', o', rfl, hb', hc', hd'⟩ := h2.atR (k := k) (by omega)
        by_cases he : xs[k] = ys[k]
        · have He := Lib.hid he
          have hq : xs[k].1 = ys[k].1 ∧ xs[k].2 = ys[k].2 := by rw [he]; exact ⟨rfl, rfl⟩
          obtain ⟨hq1, hq2⟩ := hq
          clear he
          go_wp2
          refine wp_region_ext (by kernel_rfl) (by kernel_rfl) ?_
          repeat (go_big_quiet_step (fail))
          refine wpQuiet_nil ?_
          rintro _ ⟨z, rfl⟩
          go_wp2
          exact ⟨⟨k + 1, by go_num, by omega, take_snoc_eq _ _ Ht.out He.out, _, ext_ext⟩, by simp [intOf]; omega⟩
        · have He := Lib.hid he
          have hq : (xs[k].1 == ys[k].1) = false ∨ (xs[k].1 == ys[k].1) = true ∧ (xs[k].2 == ys[k].2) = false := by
            by_cases h : xs[k].1 = ys[k].1
            · exact .inr ⟨by simp [h], by simp; exact fun h2 => he (Prod.ext h h2)⟩
            · exact .inl (by simp [h])
          clear he
          rcases hq with hq1 | ⟨hq1, hq2⟩
          all_goals
            go_wp2
            refine wp_region_ext (by kernel_rfl) (by kernel_rfl) ?_
            repeat (go_big_quiet_step (fail))
            refine wpQuiet_nil ?_
            rintro _ ⟨z, rfl⟩
            go_wp2
            go_ret
            exact ⟨by rw [decide_eq_false (ne_of_at hlt (by omega) He.out)]; rfl, _, ext_ext⟩
      · go_wp2
        go_ret
        exact ⟨by rw [decide_eq_true (all_eq hl hlt Ht.out)]; rfl, y, rfl⟩
  · have hn : ((xs.length : Int) != (ys.length : Int)) = true := by simp; omega
    go_enter Try.func17, Try.ntmps17
    go_wp2
    go_ret
    exact ⟨by rw [decide_eq_false (by rintro rfl; exact hl rfl)]; rfl, refl_ext w⟩

end Go.Proofs.Ythhdmdmjadpgjaa
