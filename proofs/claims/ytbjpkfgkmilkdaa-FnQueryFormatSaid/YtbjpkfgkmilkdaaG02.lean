/- Contracts of functions that the statement reaches. -/
import Derived.Test.YtbjpkfgkmilkdaaG01
namespace Go.Proofs.Ytbjpkfgkmilkdaa
open Go.RowKit
theorem sU_of {n : Int} (h0 : 0 ≤ n) (h1 : n ≤ 255) : ∀ w, sU w [.int .u8 n] (UInt8.ofNat n.toNat) [] := fun w => ⟨by
  rw [UInt8.toNat_ofNat', Nat.mod_eq_of_lt (by omega), Int.toNat_of_nonneg h0], rfl⟩
set_option maxHeartbeats 1000000 in
theorem l1Pick_any {g b m cap : Nat} {cs : Array Value} {w0 w : World} (hc : Cur w0 w g) (h1 : 1 ≤ m) (h2 : m ≤ 256) (hb : BoxAt w b cs) (hcs : ∀ j, j < m → ∃ x : ByteArray, cs[j]? = some (.string x)) (hne : b ≠ g) :
    Calls Try.prog 67 #[.pointer (some ⟨g, 0, none⟩), .slice (some ⟨b, 0, none⟩) m cap] w fun e w' => ∃ (x : ByteArray) (j : Nat), e = .returned (.string x) ∧ j < m ∧ cs[j]? = some (.string x) ∧ Cur w0 w' g ∧ Chg [g] w w' := by
  have HCS := Lib.hid hcs
  clear hcs
  go_enter Try.func67, Try.ntmps67
  go_wp2_with (go_at_call 55; refine (l1Below_any hc (by omega) (by omega)).mono ?_; rintro e w1 ⟨x, rfl, hx0, hx1, hc1, hC1⟩; obtain ⟨k, rfl⟩ : ∃ k : Nat, x = k := ⟨x.toNat, by omega⟩; have hk : k < m := (by omega); obtain ⟨z, hz⟩ := HCS.out k hk; have HZ := Lib.hid hz; have hb1 := hb.chg hC1 (by simpa using hne); have hcell : w1.cell? ⟨b, k, none⟩ = some (.string z) := (by rw [hb1.2.1 k]; exact hz); have hbl := hb1.1; clear hz)
  go_ret
  exact ⟨z, k, rfl, hk, HZ.out, hc1, hC1⟩
def TxP (w0 : World) (g n : Nat) (w : World) (e : Ending) (w' : World) : Prop := ∃ s : ByteArray, e = .returned (.string s) ∧ s.size ≤ n ∧ Cur w0 w' g ∧ Chg [g] w w'
set_option maxRecDepth 100000 in
set_option maxHeartbeats 8000000 in
theorem l1Text_any {g n : Nat} {w0 w : World} (hc : Cur w0 w g) (hn : n ≤ 100) :
    Calls Try.prog 103 #[.pointer (some ⟨g, 0, none⟩), .int .i64 n] w (TxP w0 g n w) := by
  have hgw := hc.lt
  have hw0 : w0.heap.size ≤ w.heap.size := size_of_ext hc.2.1
  have hS0 := SV.empty (α := UInt8) (te := 5) (size := 1) (E := sU) w
  have hc0 := hc.toExt (alloc_ext w (.cells #[] 5))
  go_enter Try.func103, Try.ntmps103
  go_wp2_with fail
  refine (l1Below_any hc0 (by omega) (by omega)).mono ?_
  rintro e w1 ⟨st, rfl, hs0, hs1, hc1, hC1⟩
  have hS1 := hS0.chg hC1 (by simp; omega)
  have hCw1 : Chg [g] w w1 := ((Chg.refl [g] w).alloc _).trans hC1 (fun x hx => .inl hx)
  clear hS0 hc0 hC1
  go_wp2_with fail
  refine (l1Below_any hc1 (by omega) (by omega)).mono ?_
  rintro e w2 ⟨x, rfl, hx0, hx1, hc2, hC2⟩
  have hS2 := hS1.chg hC2 (by simp; omega)
  have hCw2 := hCw1.trans hC2 (fun x hx => .inl hx)
  clear hS1 hc1 hC2 hCw1
  obtain ⟨k0, rfl⟩ : ∃ k : Nat, x = k := ⟨x.toNat, by omega⟩
  have hk0 : k0 ≤ n := by omega
  clear hx0 hx1
  go_wp2_with fail
  go_loopw [5, 7] (fun v i wr => ∃ (k : Nat) (ds : List UInt8) (F : List Nat), i = .int .i64 k ∧ SV 5 1 sU wr v ds F ∧ (∀ b ∈ F, w.heap.size ≤ b) ∧ k ≤ n ∧ ds.length + k ≤ n ∧ Cur w0 wr g ∧ Chg [g] w wr) (fun _ i _ => (intOf i).toNat)
  case atStart => exact ⟨k0, [], [w.heap.size], rfl, hS2, by simp, hk0, by simpa using hk0, hc2, hCw2⟩
  case round =>
    clear hS2 hc2 hCw2
    obtain ⟨k, ds, F, rfl, hS, hF, hk, hl, hcr, hC⟩ := hrel
    have HF := Lib.hid hF
    have HS := Lib.hid hS
    have HC := Lib.hid hC
    have hgr := hcr.lt
    have hzr := hC.size
    have ngF : Hid (∀ b ∈ F, b ∉ [g]) := Lib.hid (fun b hb h => by have := hF b hb; simp at h; omega)
    by_cases hlt : 0 < k
    · obtain ⟨A, cap, rfl, _, _⟩ := hS.form
      clear hS hF hC
      go_wp2_with fail
      refine (l1Byte_any hcr).mono ?_
      rintro e w3 ⟨x3, rfl, hy0, hy1, hc3, hC3⟩
      have hS3 := HS.out.chg hC3 ngF.out
      have hC3' := HC.out.trans hC3 (fun x hx => .inl hx)
      have HS3 := Lib.hid hS3
      have HC3 := Lib.hid hC3'
      have Hc3 := Lib.hid hc3
      clear hS3 hC3 hC3' hc3 hcr
      by_cases h1 : st = 1
      · subst h1
        go_wp2_with (at_builtin; refine wpList_app1 (E := sU) rfl _ _ _ rfl tU rfl rfl rfl (by simp) (sU_of (by omega) (by omega)) rfl (by simp [Value.oneCell']) HS3.out (by omega) (by omega) ?_; intro v' w' F' hS' hC' hF')
        have hz3 := HC3.out.size
        have hnF : ∀ b ∈ F', w.heap.size ≤ b := fun b hb => by
          rcases hF' b hb with h | h
          · exact HF.out b h
          · omega
        have hcF := Hc3.out.chg hC' (fun h => ngF.out g h (by simp)) (fun b hb => Nat.le_trans hw0 (HF.out b hb))
        exact ⟨⟨k - 1, _, F', by go_num, hS', hnF, by omega, by simp; omega, hcF, HC3.out.trans hC' (fun x hx => .inr (HF.out x hx))⟩, by simp [intOf]; omega⟩
      · by_cases h2 : st = 2
        · subst h2
          clear h1
          go_wp2_with (at_builtin; refine wpList_app1 (E := sU) rfl _ _ _ rfl tU rfl rfl rfl (by simp) (sU_of (by omega) (by omega)) rfl (by simp [Value.oneCell']) HS3.out (by omega) (by omega) ?_; intro v' w' F' hS' hC' hF')
          have hz3 := HC3.out.size
          have hnF : ∀ b ∈ F', w.heap.size ≤ b := fun b hb => by
            rcases hF' b hb with h | h
            · exact HF.out b h
            · omega
          have hcF := Hc3.out.chg hC' (fun h => ngF.out g h (by simp)) (fun b hb => Nat.le_trans hw0 (HF.out b hb))
          exact ⟨⟨k - 1, _, F', by go_num, hS', hnF, by omega, by simp; omega, hcF, HC3.out.trans hC' (fun x hx => .inr (HF.out x hx))⟩, by simp [intOf]; omega⟩
        · have q1 : (st == 1) = false := by simp [h1]
          have q2 : (st == 2) = false := by simp [h2]
          clear h1 h2
          go_wp2_with (at_builtin; refine wpList_app1 (E := sU) rfl _ _ _ rfl tU rfl rfl rfl (by simp) (sU_of (by omega) (by omega)) rfl (by simp [Value.oneCell']) HS3.out (by omega) (by omega) ?_; intro v' w' F' hS' hC' hF')
          have hz3 := HC3.out.size
          have hnF : ∀ b ∈ F', w.heap.size ≤ b := fun b hb => by
            rcases hF' b hb with h | h
            · exact HF.out b h
            · omega
          have hcF := Hc3.out.chg hC' (fun h => ngF.out g h (by simp)) (fun b hb => Nat.le_trans hw0 (HF.out b hb))
          exact ⟨⟨k - 1, _, F', by go_num, hS', hnF, by omega, by simp; omega, hcF, HC3.out.trans hC' (fun x hx => .inr (HF.out x hx))⟩, by simp [intOf]; omega⟩
    · obtain ⟨A', cap', rfl, _, _, hV'⟩ := hS.view sU_v
      have kc := convV (P := Try.prog) (c := cap') (n := ds.length) Try.underlying37 Try.underlying5 Try.underlying9 rfl hV'
      have ku : (ByteArray.mk ds.toArray).size = ds.length := by simp [ByteArray.size]
      clear hS hF
      go_wp2
      go_ret
      show TxP w0 g n w _ _
      exact ⟨_, rfl, by rw [ku]; omega, hcr, HC.out⟩
theorem l1Text_3 {g : Nat} {w0 w : World} (hc : Cur w0 w g) : Calls Try.prog 103 #[.pointer (some ⟨g, 0, none⟩), .int .i64 3] w (TxP w0 g 3 w) := l1Text_any (n := 3) hc (by omega)
theorem conv1s (w : World) (b o cap : Nat) (n : Int) (h : w.cell? ⟨b, o, none⟩ = some (.int .u8 n)) : (convert 37 9 (.slice (some ⟨b, o, none⟩) 1 cap)).run Try.prog w = .ok (.string (bs [UInt8.ofNat n.toNat])) w :=
  run_convert_bytes_arg w _ _ Try.underlying37 Try.underlying5 b o 1 cap [n] rfl (fun i hi => by
    have : i = 0 := by omega
    subst this
    simpa using h) _ Try.underlying9
set_option maxRecDepth 100000 in
set_option maxHeartbeats 8000000 in
theorem l1Below_gen {g n : Nat} {w0 w : World} (hc : Cur w0 w g) (h1 : 1 ≤ n) (h2 : n ≤ 1000000000) :
    Calls Try.prog 55 #[.pointer (some ⟨g, 0, none⟩), .int .i64 n] w fun e w' => ∃ x : Nat, e = .returned (.int .i64 x) ∧ x < n ∧ Cur w0 w' g ∧ Chg [g] w w' := by
  by_cases hs : n ≤ 256
  · refine (l1Below_any hc (by omega) (by omega)).mono ?_
    rintro e w' ⟨x, rfl, hx0, hx1, hc1, hC1⟩
    obtain ⟨k, rfl⟩ : ∃ k : Nat, x = k := ⟨x.toNat, by omega⟩
    exact ⟨k, rfl, by omega, hc1, hC1⟩
  · go_enter Try.func55, Try.ntmps55
    go_wp2_with fail
    refine (l1Byte_any hc).mono ?_
    rintro e w1 ⟨a, rfl, ha0, ha1, hc1, hC1⟩
    go_wp2_with fail
    refine (l1Byte_any hc1).mono ?_
    rintro e w2 ⟨b, rfl, hb0, hb1, hc2, hC2⟩
    go_wp2_with fail
    refine (l1Byte_any hc2).mono ?_
    rintro e w3 ⟨c, rfl, hg0, hg1, hc3, hC3⟩
    go_wp2_with fail
    refine (l1Byte_any hc3).mono ?_
    rintro e w4 ⟨d, rfl, hd0, hd1, hc4, hC4⟩
    go_wp2
    go_ret
    obtain ⟨k, hk⟩ : ∃ k : Nat, (a * 16777216 + b * 65536 + c * 256 + d) % (n : Int) = k := ⟨((a * 16777216 + b * 65536 + c * 256 + d) % (n : Int)).toNat, by have := Int.emod_nonneg (a * 16777216 + b * 65536 + c * 256 + d) (b := (n : Int)) (by omega); omega⟩
    have hl := Int.emod_lt_of_pos (a * 16777216 + b * 65536 + c * 256 + d) (b := (n : Int)) (by omega)
    exact ⟨k, by rw [← hk]; rfl, by omega, hc4, ((hC1.trans hC2 (fun x hx => .inl hx)).trans hC3 (fun x hx => .inl hx)).trans hC4 (fun x hx => .inl hx)⟩
set_option maxRecDepth 100000 in
set_option maxHeartbeats 8000000 in
theorem l1Spoil_any {g : Nat} {s : ByteArray} {w0 w : World} (hc : Cur w0 w g) (hs : s.size ≤ 1000000) :
    Calls Try.prog 66 #[.pointer (some ⟨g, 0, none⟩), .string s] w (TxP w0 g (s.size + 3) w) := by
  by_cases h0 : s.size = 0
  · have q0 : ((s.size : Int) == 0) = true := by simp [h0]
    clear h0
    go_enter Try.func66, Try.ntmps66
    go_wp2_with fail
    refine (l1Text_3 hc).mono ?_
    rintro e w1 ⟨t, rfl, ht, hc1, hC1⟩
    go_wp2
    go_ret
    show TxP w0 g (s.size + 3) w _ _
    exact ⟨t, rfl, by omega, hc1, hC1⟩
  · have q0 : ((s.size : Int) == 0) = false := by rw [beq_eq_false_iff_ne]; omega
    have hs1 : 1 ≤ s.size := by omega
    clear h0
    go_enter Try.func66, Try.ntmps66
    go_wp2_with fail
    refine (l1Below_gen hc (by omega) (by omega)).mono ?_
    rintro e w1 ⟨k, rfl, hk, hc1, hC1⟩
    go_wp2_with fail
    refine (l1Below_any hc1 (by omega) (by omega)).mono ?_
    rintro e w2 ⟨x, rfl, hx0, hx1, hc2, hC2⟩
    have hCw := hC1.trans hC2 (fun x hx => .inl hx)
    have e1 : (s.extract 0 k).size = k := by rw [ByteArray.size_extract]; omega
    have e2 : (s.extract k s.size).size = s.size - k := by rw [ByteArray.size_extract]; omega
    have e3 : (s.extract (k + 1) s.size).size = s.size - (k + 1) := by rw [ByteArray.size_extract]; omega
    have HCw := Lib.hid hCw
    have Hc2 := Lib.hid hc2
    have hg2 := hc2.lt
    clear hc1 hC1 hC2 hCw hc2
    have h : x = 0 ∨ x = 1 ∨ x = 2 ∨ x = 3 := by omega
    rcases h with rfl | rfl | rfl | rfl
    · have d1 : ¬ (9223372036854775807 < (s.extract 0 k).size + (s.extract (k + 1) s.size).size) := by omega
      have l1 : (s.extract 0 k ++ s.extract (k + 1) s.size).size ≤ s.size + 3 := by rw [ba_size]; omega
      have L1 := Lib.hid l1
      clear l1 e1 e2 e3
      go_wp2_with fail
      refine wp_region_ext (by kernel_rfl) (by kernel_rfl) ?_
      repeat (go_big_quiet_step (fail))
      refine wpQuiet_nil ?_
      rintro _ ⟨z, rfl⟩
      go_wp2
      go_ret
      show TxP w0 g (s.size + 3) w _ _
      exact ⟨_, rfl, L1.out, Hc2.out.toExt ⟨z, rfl⟩, HCw.out.extS _⟩
    · have d1 : ∀ u : UInt8, ¬ (9223372036854775807 < (s.extract 0 k).size + (bs [u]).size) := fun u => by rw [bs_size]; simp; omega
      have d2 : ∀ u : UInt8, ¬ (9223372036854775807 < (s.extract 0 k ++ bs [u]).size + (s.extract k s.size).size) := fun u => by rw [ba_size, bs_size]; simp; omega
      have L1 : Hid (∀ u : UInt8, (s.extract 0 k ++ bs [u] ++ s.extract k s.size).size ≤ s.size + 3) := Lib.hid (fun u => by rw [ba_size, ba_size, bs_size]; simp; omega)
      have i0 : (0 : Int) ≤ (k : Int) := by omega
      have i1 : (k : Int) ≤ (s.size : Int) := by omega
      have kc := conv1s
      have n0 : ∀ u : UInt8, (bs [u]).size = 1 := fun u => bs_size _
      have n1 : ¬ (9223372036854775807 < k + 1) := by omega
      have n2 : ¬ (9223372036854775807 < k + 1 + (s.size - k)) := by omega
      have n3 : min k s.size = k := by omega
      clear e3
      go_wp2_with fail
      go_region_with (first | (go_at_call 96; refine (l1Byte_any (Hc2.out.toExt (drew_ext _))).mono ?_; rintro e w3 ⟨y, rfl, hy0, hy1, hc3, hC3⟩; have hu : IntKind.u8.wrap y = y := (by rw [IntKind.wrap_u8]; omega)))
      all_goals
        go_wp2
        go_ret
        show TxP w0 g (s.size + 3) w _ _
        exact ⟨_, rfl, L1.out _, hc3.toExt (by repeat (with_reducible (first | exact refl_ext _ | exact alloc_ext _ _ | exact drew_ext _ | assumption | refine trans_ext ?_ (drew_ext _) | refine trans_ext ?_ (alloc_ext _ _) | refine trans_ext ?_ (by assumption)))), ((HCw.out.drew).trans hC3 (fun x hx => .inl hx)).alloc _⟩
    · go_wp2
      go_ret
      show TxP w0 g (s.size + 3) w _ _
      exact ⟨_, rfl, by omega, Hc2.out, HCw.out⟩
    · have L1 : Hid (∀ u : UInt8, (s.extract 0 k ++ bs [u] ++ s.extract (k + 1) s.size).size ≤ s.size + 3) := Lib.hid (fun u => by rw [ba_size, ba_size, bs_size]; simp; omega)
      have i0 : (0 : Int) ≤ (k : Int) := by omega
      have i1 : (k : Int) ≤ (s.size : Int) := by omega
      have i2 : (k : Int) < (s.size : Int) := by omega
      have i3 : (0 : Int) ≤ (k : Int) + 1 := by omega
      have i4 : (k : Int) + 1 ≤ (s.size : Int) := by omega
      have i5 : ((k : Int) + 1).toNat = k + 1 := by omega
      have i6 : IntKind.i64.wrap ((k : Int) + 1) = (k : Int) + 1 := by rw [IntKind.wrap_i64]; omega
      have kc := conv1s
      have n0 : ∀ u : UInt8, (bs [u]).size = 1 := fun u => bs_size _
      have n1 : ¬ (9223372036854775807 < k + 1) := by omega
      have n2 : ¬ (9223372036854775807 < k + 1 + (s.size - (k + 1))) := by omega
      have n3 : min k s.size = k := by omega
      clear e2
      go_wp2_with fail
      go_region_with (first | (go_at_call 55; refine (l1Below_any (Hc2.out.toExt (drew_ext _)) (by omega) (by omega)).mono ?_; rintro e w3 ⟨y, rfl, hy0, hy1, hc3, hC3⟩; have hu : IntKind.i64.wrap (1 + y) = 1 + y := (by rw [IntKind.wrap_i64]; omega)))
      all_goals
        go_wp2
        go_ret
        show TxP w0 g (s.size + 3) w _ _
        exact ⟨_, rfl, L1.out _, hc3.toExt (by repeat (with_reducible (first | exact refl_ext _ | exact alloc_ext _ _ | exact drew_ext _ | assumption | refine trans_ext ?_ (drew_ext _) | refine trans_ext ?_ (alloc_ext _ _) | refine trans_ext ?_ (by assumption)))), ((HCw.out.drew).trans hC3 (fun x hx => .inl hx)).alloc _⟩
end Go.Proofs.Ytbjpkfgkmilkdaa
