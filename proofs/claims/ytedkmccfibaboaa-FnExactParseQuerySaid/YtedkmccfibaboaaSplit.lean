/- Texts divided at a byte: the program's way and the reference's. -/
import Derived.Test.YtedkmccfibaboaaRows
import Derived.Test.YtedkmccfibaboaaDec
import Derived.Test.YtedkmccfibaboaaApp
import Derived.Test.YtedkmccfibaboaaJoinT
namespace Go.Proofs.Ytedkmccfibaboaa
open Go.RowKit

theorem u8_eq {a b : UInt8} (h : a = b) : ((a.toNat : Int) == (b.toNat : Int)) = true := by rw [h]; simp
theorem u8_ne {a b : UInt8} (h : a ≠ b) : ((a.toNat : Int) == (b.toNat : Int)) = false := by
  rw [beq_eq_false_iff_ne]
  intro e
  exact h (UInt8.toNat_inj.1 (by omega))
theorem u8_bnet {a b : UInt8} (h : a = b) : ((a.toNat : Int) != (b.toNat : Int)) = false := by rw [bne, u8_eq h]; rfl
theorem u8_bnef {a b : UInt8} (h : a ≠ b) : ((a.toNat : Int) != (b.toNat : Int)) = true := by rw [bne, u8_ne h]; rfl
set_option maxHeartbeats 1000000 in
theorem split_any {s : ByteArray} {c : UInt8} {w : World} (hs : s.size ≤ 1000000000) :
    Calls Try.prog 23 #[.string s, .int .u8 c.toNat] w fun e w' => ∃ v F, e = .returned v ∧ (∃ y, w' = ext w y) ∧ SV 9 1 sS w' v (splB c s) F ∧ ∀ b ∈ F, w.heap.size ≤ b := by
  go_enter Try.func23, Try.ntmps23
  go_wp2
  go_loopw [5, 6, 7] (fun v f i wr => ∃ (k n : Nat) (ds : List ByteArray) (F : List Nat), i = .int .i64 k ∧ f = .int .i64 n ∧ n ≤ k ∧ (k ≤ s.size ∧ SplI c s n k ds ∨ k = s.size + 1 ∧ ds = splB c s) ∧ SV 9 1 sS wr v ds F ∧ (∀ b ∈ F, w.heap.size ≤ b) ∧ (∃ y, wr = ext w y) ∧ ds.length ≤ k) (fun _ _ i _ => s.size + 1 - (intOf i).toNat)
  case atStart => exact ⟨0, 0, [], [], rfl, rfl, by omega, .inl ⟨by omega, SplI.start c s⟩, SV.nil, by simp, refl_ext w, by simp⟩
  case round =>
    obtain ⟨k, n, ds, F, rfl, rfl, hn, hr, hS, hF, hy, hl⟩ := hrel
    have HF := Lib.hid hF
    clear hF
    by_cases hlt : k < s.size
    · have hr : SplI c s n k ds := by
        rcases hr with h | h
        · exact h.2
        · omega
      by_cases hc : s[k] = c
      · have hq := u8_eq hc
        have HR := Lib.hid (hr.cut hlt hc)
        clear hr hc
        go_wp2_with (at_builtin; refine wpList_app1 (E := sS) rfl _ _ _ rfl tS rfl rfl rfl (by simp) (fun _ => ⟨rfl, rfl⟩) rfl (by simp [Value.oneCell']) hS (by omega) (by omega) ?_; intro v' w' F' hS' hC' hF')
        exact ⟨⟨k + 1, k + 1, _, F', by go_num, by go_num, by omega, .inl ⟨by omega, HR.out⟩, hS', newer HF.out (size_of_ext hy) hF', hC'.isExt hy HF.out, by simp; omega⟩, by simp [intOf]; omega⟩
      · have hq := u8_ne hc
        have HR := Lib.hid (hr.step hlt hn hc)
        clear hr hc
        go_wp2
        exact ⟨⟨k + 1, n, _, F, by go_num, rfl, by omega, .inl ⟨by omega, HR.out⟩, hS, HF.out, hy, by omega⟩, by simp [intOf]; omega⟩
    · by_cases hk : k = s.size
      · subst hk
        have HR := Lib.hid (show ds ++ [s.extract n s.size] = splB c s by
          rcases hr with h | h
          · exact h.2.last hlt
          · omega)
        clear hr
        go_wp2_with (at_builtin; refine wpList_app1 (E := sS) rfl _ _ _ rfl tS rfl rfl rfl (by simp) (fun _ => ⟨rfl, rfl⟩) rfl (by simp [Value.oneCell']) hS (by omega) (by omega) ?_; intro v' w' F' hS' hC' hF')
        exact ⟨⟨s.size + 1, s.size + 1, _, F', by go_num, by go_num, by omega, .inr ⟨rfl, HR.out⟩, hS', newer HF.out (size_of_ext hy) hF', hC'.isExt hy HF.out, by simpa using hl⟩, by simp [intOf]⟩
      · have HR := Lib.hid (show ds = splB c s by
          rcases hr with h | h
          · omega
          · exact h.2)
        have hk2 : s.size < k := by omega
        clear hr
        go_wp2
        go_ret
        exact ⟨_, F, rfl, hy, by rw [← HR.out]; exact hS, HF.out⟩
set_option maxHeartbeats 1000000 in
theorem l5Cut_any {s : ByteArray} {c : UInt8} {w : World} (hs : s.size ≤ 1000000000) :
    Calls Try.prog 19 #[.string s, .int .u8 c.toNat] w fun e w' => ∃ v F, e = .returned v ∧ (∃ y, w' = ext w y) ∧ SV 9 1 sS w' v (splB c s) F ∧ ∀ b ∈ F, w.heap.size ≤ b := by
  go_enter Try.func19, Try.ntmps19
  go_wp2
  go_loopw [5, 6, 7] (fun v f i wr => ∃ (k n : Nat) (ds : List ByteArray) (F : List Nat), i = .int .i64 k ∧ f = .int .i64 n ∧ n ≤ k ∧ k ≤ s.size ∧ SplI c s n k ds ∧ SV 9 1 sS wr v ds F ∧ (∀ b ∈ F, w.heap.size ≤ b) ∧ (∃ y, wr = ext w y) ∧ ds.length ≤ k) (fun _ _ i _ => s.size + 1 - (intOf i).toNat)
  case atStart => exact ⟨0, 0, [], [w.heap.size], rfl, rfl, by omega, by omega, SplI.start c s, SV.empty w, by simp, alloc_ext _ _, by simp⟩
  case round =>
    obtain ⟨k, n, ds, F, rfl, rfl, hn, hk, hr, hS, hF, hy, hl⟩ := hrel
    have HF := Lib.hid hF
    clear hF
    by_cases hlt : k < s.size
    · by_cases hc : s[k] = c
      · have hq := u8_eq hc
        have HR := Lib.hid (hr.cut hlt hc)
        clear hr hc
        go_wp2_with (at_builtin; refine wpList_app1 (E := sS) rfl _ _ _ rfl tS rfl rfl rfl (by simp) (fun _ => ⟨rfl, rfl⟩) rfl (by simp [Value.oneCell']) hS (by omega) (by omega) ?_; intro v' w' F' hS' hC' hF')
        exact ⟨⟨k + 1, k + 1, _, F', by go_num, by go_num, by omega, by omega, HR.out, hS', newer HF.out (size_of_ext hy) hF', hC'.isExt hy HF.out, by simp; omega⟩, by simp [intOf]; omega⟩
      · have hq := u8_ne hc
        have HR := Lib.hid (hr.step hlt hn hc)
        clear hr hc
        go_wp2
        exact ⟨⟨k + 1, n, _, F, by go_num, rfl, by omega, by omega, HR.out, hS, HF.out, hy, by omega⟩, by simp [intOf]; omega⟩
    · have hk : k = s.size := by omega
      subst hk
      have HR := Lib.hid (hr.last hlt)
      clear hr
      go_wp2_with (at_builtin; refine wpList_app1 (E := sS) rfl _ _ _ rfl tS rfl rfl rfl (by simp) (fun _ => ⟨rfl, rfl⟩) rfl (by simp [Value.oneCell']) hS (by omega) (by omega) ?_; intro v' w' F' hS' hC' hF')
      go_ret
      exact ⟨_, F', rfl, hC'.isExt hy HF.out, by rw [← HR.out]; exact hS', newer HF.out (size_of_ext hy) hF'⟩
end Go.Proofs.Ytedkmccfibaboaa
