/- Contracts of the laws' helpers on []Rational: marks written and looked for. -/
import Derived.Test.YtnchebfemacebaaRats
namespace Go.Proofs.Ytnchebfemacebaa
open Go.RowKit

def marksR (k : Int) (n : Nat) : List (Int × Int) := (List.range n).map fun (i : Nat) => (k + 2 * (i : Int), k + 2 * (i : Int) + 1)
@[simp] theorem marksR_length (k : Int) (n : Nat) : (marksR k n).length = n := by simp [marksR]
theorem marksR_get {k : Int} {n j : Nat} (h : j < (marksR k n).length) : (marksR k n)[j] = (k + 2 * (j : Int), k + 2 * (j : Int) + 1) := by simp [marksR]
theorem bne_self {a : Int} : (a != a) = false := by simp

set_option maxHeartbeats 1000000 in
theorem markRationalS_any {v : Value} {xs : List (Int × Int)} {F : List Nat} {k0 : Int} {w : World} (hx : xs.length ≤ 1000000000) (hS : SV 25 2 sR w v xs F) (h0 : 0 ≤ k0) (hk0 : k0 ≤ 100000000000) :
    Calls Try.prog 24 #[v, .int .i64 k0] w fun e w' => e = .returned (.int .i64 (k0 + 2 * xs.length)) ∧ SV 25 2 sR w' v (marksR k0 xs.length) F ∧ Chg F w w' := by
  obtain ⟨A, cap, rfl, _, _⟩ := hS.form
  go_enter Try.func24, Try.ntmps24
  go_wp2
  go_loopw [1, 5] (fun m i wr => ∃ k : Nat, i = .int .i64 k ∧ m = .int .i64 (k0 + 2 * k) ∧ k ≤ xs.length ∧ SV 25 2 sR wr (.slice A xs.length cap) ((marksR k0 xs.length).take k ++ xs.drop k) F ∧ Chg F w wr) (fun _ i _ => xs.length - (intOf i).toNat)
  case atStart => exact ⟨0, rfl, by simp, by omega, by simpa using hS, Chg.refl F w⟩
  case round =>
    obtain ⟨k, rfl, rfl, hk, hSk, hC⟩ := hrel
    have hlen : ((marksR k0 xs.length).take k ++ xs.drop k).length = xs.length := by simp; omega
    by_cases hlt : k < xs.length
    · have HS := Lib.hid hSk
      obtain ⟨g, cap', hv, hgF, _, _⟩ := hSk.block (by intro h; simp [h] at hlen; omega)
      rw [hlen] at hv
      injection hv with hA _ hc
      subst hA hc
      obtain ⟨⟨u, hu⟩, hf, hg⟩ := hSk.cell hlen (j := k * 2) (by omega)
      obtain ⟨⟨u', hu'⟩, hf', _⟩ := hSk.cell hlen (j := k * 2 + 1) (by omega)
      clear hSk hS
      go_wp2
      obtain ⟨h3, h4⟩ := HS.out.set2 hlen (k := k) (by omega) (u := .int .i64 (k0 + 2 * k)) (v := .int .i64 (k0 + 2 * k + 1)) (d := (k0 + 2 * k, k0 + 2 * k + 1)) (fun _ => ⟨rfl, rfl⟩)
      refine ⟨⟨k + 1, by go_num, by congr 1; omega, by omega, ?_, hC.trans h4 (by simp [hgF])⟩, by simp [intOf]; omega⟩
      rwa [set_step (by simp) hlt (marksR_get _)] at h3
    · go_wp2
      go_ret
      have e : k = xs.length := by omega
      subst e
      exact ⟨rfl, by rwa [List.take_of_length_le (by simp), List.drop_length, List.append_nil] at hSk, hC⟩

set_option maxHeartbeats 1000000 in
theorem heldRationalS_any {A : Option Addr} {c n : Nat} {k0 : Int} {w : World} (hx : n ≤ 1000000000) (h1 : RR w A (marksR k0 n)) (h0 : 0 ≤ k0) (hk0 : k0 ≤ 100000000000) :
    Calls Try.prog 45 #[.slice A n c, .int .i64 k0] w fun e w' => e = .returned (.int .i64 (k0 + 2 * n)) ∧ ∃ y, w' = ext w y := by
  go_enter Try.func45, Try.ntmps45
  go_wp2
  go_loopw [1, 5] (fun m i wr => ∃ k : Nat, i = .int .i64 k ∧ m = .int .i64 (k0 + 2 * k) ∧ k ≤ n ∧ ∃ y, wr = ext w y) (fun _ i _ => n - (intOf i).toNat)
  case atStart => exact ⟨0, rfl, by simp, by omega, refl_ext w⟩
  case round =>
    obtain ⟨k, rfl, rfl, hk, y, rfl⟩ := hrel
    by_cases hlt : k < n
    · obtain ⟨b, o, rfl, hb, hc, hd⟩ := h1.atR (k := k) (by simpa using hlt)
      rw [marksR_get] at hc hd
      go_wp2
      exact ⟨⟨k + 1, by go_num, by congr 1; omega, by omega, y, rfl⟩, by simp [intOf]; omega⟩
    · go_wp2
      go_ret
      have e : k = n := by omega
      subst e
      exact ⟨rfl, y, rfl⟩
end Go.Proofs.Ytnchebfemacebaa
