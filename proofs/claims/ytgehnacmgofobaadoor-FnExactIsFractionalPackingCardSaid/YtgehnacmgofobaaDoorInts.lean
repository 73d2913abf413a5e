/- Contracts of the laws' helpers on []int: its size, a copy, equality, marks written and looked for. -/
import Derived.Test.YtgehnacmgofobaaDoorRows
import Derived.Test.YtgehnacmgofobaaDoorOwn
namespace Go.Proofs.YtgehnacmgofobaaDoor
open Go.RowKit

theorem tI : SlT Tryd.prog 23 3 1 8 (.int .i64 0) := ⟨Tryd.underlying23, by kernel_rfl, rfl, by omega⟩

theorem take_snoc_eq {α : Type} {xs ys : List α} {k : Nat} (h1 : k < xs.length) (h2 : k < ys.length) (h : xs.take k = ys.take k) (he : xs[k] = ys[k]) : xs.take (k + 1) = ys.take (k + 1) := by
  rw [List.take_succ_eq_append_getElem h1, List.take_succ_eq_append_getElem h2, h, he]
theorem ne_of_at {α : Type} {xs ys : List α} {k : Nat} (h1 : k < xs.length) (h2 : k < ys.length) (he : ¬ xs[k] = ys[k]) : xs ≠ ys := by
  rintro rfl
  exact he rfl
theorem all_eq {α : Type} {xs ys : List α} {k : Nat} (hl : xs.length = ys.length) (hk : ¬ k < xs.length) (h : xs.take k = ys.take k) : xs = ys := by
  rwa [List.take_of_length_le (by omega), List.take_of_length_le (by omega)] at h

theorem le_maxLen {n : Nat} (h : n ≤ maxLen) : n ≤ 9223372036854775807 := by simp only [maxLen] at h; omega
theorem set_fill {α : Type} {xs : List α} {k : Nat} {z : α} (h : k < xs.length) : (xs.take k ++ List.replicate (xs.length - k) z).set k xs[k] = xs.take (k + 1) ++ List.replicate (xs.length - (k + 1)) z := by
  rw [List.set_append_right _ _ (by simp; omega), List.length_take, Nat.min_eq_left (by omega), Nat.sub_self, show xs.length - k = (xs.length - (k + 1)) + 1 by omega, List.replicate_succ, List.set_cons_zero, List.take_succ_eq_append_getElem h, List.append_assoc]
  rfl
theorem set_step {α : Type} {xs ys : List α} {k : Nat} {x : α} (hl : ys.length = xs.length) (h : k < xs.length) (hx : ys[k]'(by omega) = x) : (ys.take k ++ xs.drop k).set k x = ys.take (k + 1) ++ xs.drop (k + 1) := by
  rw [List.set_append_right _ _ (by simp; omega), List.length_take, Nat.min_eq_left (by omega), Nat.sub_self, List.drop_eq_getElem_cons h, List.set_cons_zero, List.take_succ_eq_append_getElem (by omega), hx]
  simp

/-- what the size functions return: -1 where the purse is empty -/
def szL (left : Int) (n : Nat) : Int := if left - n < 0 then -1 else left - n
theorem szL_le {left : Int} {n : Nat} (h : 0 ≤ szL left n) : szL left n ≤ left := by unfold szL at h ⊢; split <;> simp_all <;> omega
theorem szL_small {left : Int} {n : Nat} (h : 0 ≤ szL left n) : (n : Int) ≤ left := by unfold szL at h; split at h <;> omega
def marks (k : Int) (n : Nat) : List Int := (List.range n).map fun (i : Nat) => k + (i : Int)
@[simp] theorem marks_length (k : Int) (n : Nat) : (marks k n).length = n := by simp [marks]
theorem marks_get {k : Int} {n j : Nat} (h : j < (marks k n).length) : (marks k n)[j] = k + (j : Int) := by simp [marks]

theorem szIntS_any {A : Option Addr} {n c : Nat} {left : Int} {w : World} (hn : n ≤ 9223372036854775807) (h1 : 0 ≤ left) (h2 : left ≤ 1000000000) :
    Calls Tryd.prog 16 #[.slice A n c, .int .i64 left] w fun e w' => e = .returned (.int .i64 (szL left n)) ∧ w = w' := by
  unfold szL
  by_cases h : left - n < 0
  · rw [if_pos h]
    go_enter Tryd.func16, Tryd.ntmps16
    go_wp2
    go_ret
    exact ⟨rfl, rfl⟩
  · rw [if_neg h]
    go_enter Tryd.func16, Tryd.ntmps16
    go_wp2
    go_ret
    exact ⟨rfl, rfl⟩

set_option maxHeartbeats 400000 in
theorem toIntS_any {A : Option Addr} {c : Nat} {xs : List Int} {w : World} (hx : xs.length ≤ 1048576) (h1 : RI w A xs) :
    Calls Tryd.prog 23 #[.slice A xs.length c] w fun e w' => ∃ v F, e = .returned v ∧ (∃ y, w' = ext w y) ∧ SV 3 1 sI w' v xs F ∧ ∀ b ∈ F, w.heap.size ≤ b := by
  go_enter Tryd.func23, Tryd.ntmps23
  go_wp2_with (at_make; refine wpList_makeS (E := sI) (d := 0) _ rfl _ _ _ rfl tI rfl rfl (fun _ => ⟨rfl, rfl⟩) (by omega) (by omega) ?_; intro w1 hS hx1 hg1)
  go_loopw [4] (fun i wr => ∃ k : Nat, i = .int .i64 k ∧ k ≤ xs.length ∧ SV 3 1 sI wr (.slice (some ⟨w.heap.size, 0, none⟩) xs.length xs.length) (xs.take k ++ List.replicate (xs.length - k) 0) [w.heap.size] ∧ ∃ y, wr = ext w y) (fun i _ => xs.length - (intOf i).toNat)
  case atStart => exact ⟨0, rfl, by omega, by simpa using hS, hx1⟩
  case round =>
    obtain ⟨k, rfl, hk, hSk, y, rfl⟩ := hrel
    by_cases hlt : k < xs.length
    · obtain ⟨b, o, rfl, hb, hc⟩ := h1.atI hlt
      have hlen : (xs.take k ++ List.replicate (xs.length - k) 0).length = xs.length := by simp; omega
      have HS := Lib.hid hSk
      obtain ⟨⟨u, hu⟩, hf, hg⟩ := hSk.cell hlen (j := k) (by omega)
      clear hSk hS hx1
      go_wp2
      obtain ⟨h3, h4⟩ := HS.out.set1 hlen (k := k) (by omega) (u := .int .i64 xs[k]) (d := xs[k]) (fun _ => ⟨rfl, rfl⟩)
      refine ⟨⟨k + 1, by go_num, by omega, ?_, h4.isExt ⟨y, rfl⟩ (by simp)⟩, by simp [intOf]; omega⟩
      rwa [set_fill hlt] at h3
    · go_wp2
      go_ret
      refine ⟨_, _, rfl, ⟨y, rfl⟩, ?_, fun b hb => by rw [List.mem_singleton.1 hb]; exact Nat.le_refl _⟩
      rwa [List.take_of_length_le (by omega), show xs.length - k = 0 by omega, List.replicate_zero, List.append_nil] at hSk

set_option maxHeartbeats 400000 in
theorem eqIntS_any {A A' : Option Addr} {c c' : Nat} {xs ys : List Int} {w : World} (hx : xs.length ≤ 1000000000) (h1 : RI w A xs) (hy : ys.length ≤ 1000000000) (h2 : RI w A' ys) :
    Calls Tryd.prog 31 #[.slice A xs.length c, .slice A' ys.length c'] w fun e w' => e = .returned (.bool (decide (xs = ys))) ∧ ∃ y, w' = ext w y := by
  by_cases hl : xs.length = ys.length
  · have hn : ((xs.length : Int) != (ys.length : Int)) = false := by simp [hl]
    go_enter Tryd.func31, Tryd.ntmps31
    go_wp2
    go_loopw [5] (fun i wr => ∃ k : Nat, i = .int .i64 k ∧ k ≤ xs.length ∧ xs.take k = ys.take k ∧ ∃ y, wr = ext w y) (fun i _ => xs.length - (intOf i).toNat)
    case atStart => exact ⟨0, rfl, by omega, by simp, refl_ext w⟩
    case round =>
      obtain ⟨k, rfl, hk, ht, y, rfl⟩ := hrel
      have Ht := Lib.hid ht
      clear ht
      by_cases hlt : k < xs.length
      · obtain ⟨b, o, rfl, hb, hc⟩ := h1.atI hlt
        obtain ⟨b', o', rfl, hb', hc'⟩ := h2.atI (k := k) (by omega)
        go_wp2
        refine wp_region_ext (by kernel_rfl) (by kernel_rfl) ?_
        repeat (go_big_quiet_step (fail))
        refine wpQuiet_nil ?_
        rintro _ ⟨z, rfl⟩
        go_wp2
        · go_ret
          have he : ¬ xs[k] = ys[k] := by simpa using ‹(xs[k] != ys[k]) = true›
          exact ⟨by rw [decide_eq_false (ne_of_at hlt (by omega) he)]; rfl, _, ext_ext⟩
        · have he : xs[k] = ys[k] := by simpa using ‹(xs[k] != ys[k]) = false›
          exact ⟨⟨k + 1, by go_num, by omega, take_snoc_eq _ _ Ht.out he, _, ext_ext⟩, by simp [intOf]; omega⟩
      · go_wp2
        go_ret
        exact ⟨by rw [decide_eq_true (all_eq hl hlt Ht.out)]; rfl, y, rfl⟩
  · have hn : ((xs.length : Int) != (ys.length : Int)) = true := by simp; omega
    go_enter Tryd.func31, Tryd.ntmps31
    go_wp2
    go_ret
    exact ⟨by rw [decide_eq_false (by rintro rfl; exact hl rfl)]; rfl, refl_ext w⟩

end Go.Proofs.YtgehnacmgofobaaDoor
