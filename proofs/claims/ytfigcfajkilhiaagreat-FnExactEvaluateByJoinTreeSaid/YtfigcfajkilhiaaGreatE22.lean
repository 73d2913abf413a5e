/- Contracts of functions that the statement reaches. -/
import Derived.Deep.RegionLaw
import Derived.Test.YtfigcfajkilhiaaGreatE21
import Derived.Test.YtfigcfajkilhiaaGreatE19
import Derived.Test.YtfigcfajkilhiaaGreatE04
namespace Go.Proofs.YtfigcfajkilhiaaGreat
open Go.RowKit
theorem cells_of {te : Nat} {w : World} {g n c : Nat} {xs : List Int} {F : List Nat} (h : SV te 1 sI w (.slice (some ⟨g, 0, none⟩) n c) xs F) {k : Nat} (hk : k < xs.length) : w.cell? ⟨g, k, none⟩ = some (.int .i64 (xs.getD k 0)) := by
  have hv := h.toView sI_v
  obtain ⟨b, o, e, _, hc⟩ := hv.atI hk
  injection e with e
  injection e with e1 e2
  subst e1 e2
  rw [getDl _ _ hk]
  simpa using hc
def UpP (ps : List Int) (w : World) (e : Ending) (w' : World) : Prop := ∃ v F, e = .returned v ∧ (∃ y, w' = ext w y) ∧ SV 3 1 sI w' v (upL ps) F ∧ ∀ b ∈ F, w.heap.size ≤ b
set_option maxRecDepth 100000 in
set_option maxHeartbeats 8000000 in
theorem upwards_any {D : Option Addr} {f1 : Nat} {ps : List Int} {r : Nat} {w : World} (hp : ps.length ≤ 4) (hr : OrdOk ps r) (h3 : RI w D ps) :
    Calls Tryz.prog 41 #[.agg #[.slice D ps.length f1]] w (UpP ps w) := by
  have HR := Lib.hid hr.root
  have HBL := Lib.hid hr.bl
  have hp1 : 1 ≤ ps.length := by
    rcases Nat.eq_zero_or_pos ps.length with h | h
    · have h2 := hr.root
      rw [List.eq_nil_of_length_eq_zero h] at h2
      simp [jroot] at h2
    · exact h
  obtain ⟨n, hn⟩ : ∃ n, ps.length = n := ⟨_, rfl⟩
  have HN := Lib.hid hn
  have HUP := Lib.hid (show upL ps = (bfsL ps).reverse from rfl)
  have HB0 := Lib.hid (show bfsF ps (ps.length + 2) 0 [(r : Int)] = bfsL ps by unfold bfsL; rw [hr.root])
  rw [hn] at hp hp1 HBL HB0 ⊢
  clear hr hn
  go_enter Tryz.func41, Tryz.ntmps41
  go_upto_region 1 with fail
  refine wp_name ?_
  intro W hW
  have xW : ∃ y, W = ext w y := by rw [hW.out]; exact (by refine x'z ?_; repeat (with_reducible (first | exact x'a _ _ | exact x'b _ | exact x'c (by assumption) | refine x'd ?_ (by assumption) | refine x'e ?_ _ | refine x'f ?_ _ | refine x'g ?_ | refine x'h ?_ ?_ _ | refine x'i ?_ _ | refine x'j ?_ | refine x'k ?_ _ | refine x'l ?_ _ _ | refine x'm ?_ | assumption | (refine x'n ?_; omega) | omega)))
  have TW : BoxAt W w.heap.size #[.slice D n f1] := by rw [hW.out]; exact (by repeat (with_reducible (first | assumption | exact BoxAt.new _ _ _ | apply BoxAt.set10 | apply BoxAt.set2 | refine BoxAt.set2' ?_ (by omega) | apply BoxAt.setP0 | apply BoxAt.setP1 | refine BoxAt.setO ?_ (by omega) | refine BoxAt.alloc ?_ _ | refine BoxAt.drew ?_ | refine BoxAt.toExt ?_ (by assumption))))
  obtain ⟨lt, r0, ft⟩ := bx1 TW
  clear hW
  go_wp2_with fail
  refine (show Calls _ _ _ _ _ from by rw [← HN.out]; exact JoinTreeRoot_any (by rw [HN.out]; omega) (h3.toExt xW)).mono ?_
  rintro e w1 ⟨rfl, hx1⟩
  rw [HR.out]
  have hE := SV.lit (te := 3) (E := sI) (u := .int .i64 (r : Int)) (d := (r : Int)) w1 (fun _ => ⟨rfl, rfl⟩)
  have HE := Lib.hid hE
  have hz1 := size_of_ext hx1
  have hzw := size_of_ext xW
  clear hE lt r0 ft
  go_wp2_with fail
  go_loopw [3, 4] (fun v i wr => ∃ (k : Nat) (out : List Int) (F : List Nat), i = .int .i64 k ∧ SV 3 1 sI wr v out F ∧ Hid (∀ b ∈ F, W.heap.size ≤ b) ∧ Hid (bfsF ps (n + 2 - k) k out = bfsL ps) ∧ k ≤ n ∧ ∃ y, wr = ext W y) (fun _ i _ => n + 1 - (intOf i).toNat)
  case atStart => exact ⟨0, [(r : Int)], [w1.heap.size], rfl, HE.out, Lib.hid (by simp; omega), HB0, by omega, trans_ext hx1 (alloc_ext _ _)⟩
  case round =>
    obtain ⟨k, out, F, rfl, hS, HF, Hb, hk, hy⟩ := hrel
    obtain ⟨A, c, rfl, hcap, hcm⟩ := hS.form
    have hol : out.length ≤ n := by
      have h := bfsF_len _ _ _ Hb.out (by intro e; have h := HBL.out; rw [e] at h; simp at h; omega)
      rw [HBL.out] at h
      exact h
    obtain ⟨lt, r0, ft⟩ := bx1 (TW.toExt hy)
    have hyw := trans_ext xW hy
    by_cases hlt : k < out.length
    · obtain ⟨ga, c2, eA, hgF, _, _⟩ := hS.block (by intro h; rw [h] at hlt; simp at hlt)
      injection eA with eA _ eC
      subst eA eC
      have hga := hS.lt ga hgF
      have hc0 := cells_of hS hlt
      obtain ⟨x, hx⟩ : ∃ x, out.getD k 0 = x := ⟨_, rfl⟩
      rw [hx] at hc0
      have HS := Lib.hid hS
      have HB2 : Hid (bfsF ps (n + 2 - (k + 1)) (k + 1) (out ++ chl 0 x ps) = bfsL ps) := Lib.hid (by
        have h := Hb.out
        rw [show n + 2 - k = (n + 2 - (k + 1)) + 1 by omega, bfsF, if_pos hlt, hx] at h
        exact h)
      have hcl := chl_length x 0 ps
      rw [HN.out] at hcl
      have hi : (k : Int) < (out.length : Int) := by omega
      clear hS Hb hx
      go_upto_region 5 with fail
      go_region_law (first
        | (refine step_appV (E := sI) (V := vI) (es := chl 0 x ps) (by rfl) _ _ _ (by rfl) tI (by rfl) (HS5.out.toExt (by refine x'z ?_; repeat (with_reducible (first | exact x'a _ _ | exact x'b _ | exact x'c (by assumption) | refine x'd ?_ (by assumption) | refine x'e ?_ _ | refine x'f ?_ _ | refine x'g ?_ | refine x'h ?_ ?_ _ | refine x'i ?_ _ | refine x'j ?_ | refine x'k ?_ _ | refine x'l ?_ _ _ | refine x'm ?_ | assumption | (refine x'n ?_; omega) | omega)))) (by rfl) (by rfl) (HV5.out.toExt (by refine x'z ?_; repeat (with_reducible (first | exact x'a _ _ | exact x'b _ | exact x'c (by assumption) | refine x'd ?_ (by assumption) | refine x'e ?_ _ | refine x'f ?_ _ | refine x'g ?_ | refine x'h ?_ ?_ _ | refine x'i ?_ _ | refine x'j ?_ | refine x'k ?_ _ | refine x'l ?_ _ _ | refine x'm ?_ | assumption | (refine x'n ?_; omega) | omega)))) vI_s vI_1 (by omega) (by omega) ?_; intro v6 w6 F6 hS6 hC6 hF6; obtain ⟨A6, c6, rfl, _, _⟩ := hS6.form)
        | (rw [if_pos (by simp [Region.wanted])]; go_wp2_with (go_at_call 55; refine (show Calls _ _ _ _ _ from by rw [← HN.out]; exact JoinTreeChildren_any (by rw [HN.out]; omega) (h3.toExt (trans_ext hyw (by refine x'z ?_; repeat (with_reducible (first | exact x'a _ _ | exact x'b _ | exact x'c (by assumption) | refine x'd ?_ (by assumption) | refine x'e ?_ _ | refine x'f ?_ _ | refine x'g ?_ | refine x'h ?_ ?_ _ | refine x'i ?_ _ | refine x'j ?_ | refine x'k ?_ _ | refine x'l ?_ _ _ | refine x'm ?_ | assumption | (refine x'n ?_; omega) | omega)))))).mono ?_; rintro e w5 ⟨v5, F5, rfl, hx5, hS5, hF5⟩; obtain ⟨A5, a5, rfl, _, _, hr5⟩ := hS5.view sI_v; have hx5r : ∃ y, w5 = ext wr y := (by refine x'z ?_; repeat (with_reducible (first | exact x'a _ _ | exact x'b _ | exact x'c (by assumption) | refine x'd ?_ (by assumption) | refine x'e ?_ _ | refine x'f ?_ _ | refine x'g ?_ | refine x'h ?_ ?_ _ | refine x'i ?_ _ | refine x'j ?_ | refine x'k ?_ _ | refine x'l ?_ _ _ | refine x'm ?_ | assumption | (refine x'n ?_; omega) | omega))); have HV5 := Lib.hid hr5; have HS5 := Lib.hid (HS.out.toExt hx5r); have HX5 := Lib.hid (trans_ext hy hx5r); have hz5 := size_of_ext hx5r)))
      all_goals
        have hF9 : ∀ b ∈ F6, W.heap.size ≤ b := fun b hb => by
          rcases hF6 b hb with h | h
          · exact HF.out b h
          · have := size_of_ext hy
            first | omega | (simp at h; omega)
        have hy6 := hC6.isExt (trans_ext HX5.out (by refine x'z ?_; repeat (with_reducible (first | exact x'a _ _ | exact x'b _ | exact x'c (by assumption) | refine x'd ?_ (by assumption) | refine x'e ?_ _ | refine x'f ?_ _ | refine x'g ?_ | refine x'h ?_ ?_ _ | refine x'i ?_ _ | refine x'j ?_ | refine x'k ?_ _ | refine x'l ?_ _ _ | refine x'm ?_ | assumption | (refine x'n ?_; omega) | omega)))) HF.out
        rw [List.length_append] at hS6
        go_wp2_with fail
        exact ⟨⟨k + 1, out ++ chl 0 x ps, F6, by go_num, hS6, Lib.hid hF9, HB2, by omega, hy6⟩, by simp [intOf]; omega⟩
    · have hout : out = bfsL ps := by
        have h := Hb.out
        rw [show n + 2 - k = (n + 1 - k) + 1 by omega, bfsF, if_neg hlt] at h
        exact h
      have HO := Lib.hid (show upL ps = out.reverse by rw [HUP.out, hout])
      have HL := Lib.hid (show out.length = n by rw [hout]; exact HBL.out)
      obtain ⟨ga, c2, eA, hgF, _, _⟩ := hS.block (by intro h; have h2 := HL.out; rw [h] at h2; simp at h2; omega)
      injection eA with eA _ eC
      subst eA eC
      have hga := HF.out ga hgF
      have hS0 : SV 3 1 sI wr (.slice (some ⟨ga, 0, none⟩) n c) (rvL out 0) F := by rw [rvL_zero]; rw [HL.out] at hS; exact hS
      have hnl : ¬ ((k : Int) < (out.length : Int)) := by omega
      have HS0 := Lib.hid hS0
      have hno : (out.length : Int) = (n : Int) := by rw [HL.out]
      clear hS hS0 Hb hout
      obtain ⟨W9, rfl⟩ : ∃ W, W = wr := ⟨_, rfl⟩
      obtain ⟨m, rfl⟩ : ∃ m, n = m + 1 := ⟨n - 1, by omega⟩
      go_wp2_with fail
      go_loopw [5, 6] (fun i j wr => ∃ (k m2 : Nat), i = .int .i64 k ∧ j = .int .i64 m2 ∧ k ≤ m ∧ m2 ≤ m ∧ Hid (k + m2 = m) ∧ SV 3 1 sI wr (.slice (some ⟨ga, 0, none⟩) (m + 1) c) (rvL out k) F ∧ ∃ y, wr = ext W y) (fun i _ _ => m + 1 - (intOf i).toNat)
      case atStart => exact ⟨0, m, rfl, by go_num, by omega, by omega, Lib.hid (by omega), HS0.out, hy⟩
      case round =>
        obtain ⟨k, j, rfl, rfl, hk, hj, HKJ, hS, hy⟩ := hrel
        by_cases hlt : k < j
        · have hkl : k < (rvL out k).length := by rw [rvL_len, HL.out]; omega
          have hjl : j < (rvL out k).length := by rw [rvL_len, HL.out]; omega
          have ck := cells_of hS hkl
          have cj := cells_of hS hjl
          obtain ⟨x, hx⟩ : ∃ x, (rvL out k).getD k 0 = x := ⟨_, rfl⟩
          obtain ⟨y, hyy⟩ : ∃ x, (rvL out k).getD j 0 = x := ⟨_, rfl⟩
          rw [hx] at ck
          rw [hyy] at cj
          have hst := rvL_step (L := out) (i := k) (j := j) (by have := HKJ.out; have := HL.out; omega) hlt
          rw [hx, hyy] at hst
          have fk := (hS.cell (by rw [rvL_len, HL.out]) (j := k) (by omega)).2.1
          have fj := (hS.cell (by rw [rvL_len, HL.out]) (j := j) (by omega)).2.1
          have lg := (hS.cell (by rw [rvL_len, HL.out]) (j := k) (by omega)).2.2
          obtain ⟨s1, g1⟩ := hS.set1 (by rw [rvL_len, HL.out]) (k := k) (u := .int .i64 y) (d := y) (by omega) (fun _ => ⟨rfl, rfl⟩)
          obtain ⟨s2, g2⟩ := s1.set1 (by rw [List.length_set, rvL_len, HL.out]) (k := j) (u := .int .i64 x) (d := x) (by omega) (fun _ => ⟨rfl, rfl⟩)
          rw [← hst] at s2
          have HS2 := Lib.hid s2
          have HX2 := Lib.hid ((g1.trans g2 (fun x hx => .inl hx)).isExt hy (fun x hx => by rw [List.mem_singleton.1 hx]; exact hga))
          have i1 : (k : Int) < (j : Int) := by omega
          have i2 : (k : Int) < ((m + 1 : Nat) : Int) := by omega
          have i3 : (j : Int) < ((m + 1 : Nat) : Int) := by omega
          have hkj : k ≠ j := by omega
          obtain ⟨j2, rfl⟩ : ∃ j2, j = j2 + 1 := ⟨j - 1, by omega⟩
          clear hS hst s1 s2 g1 g2 hx hyy hkl hjl
          go_upto_region 9 with fail
          go_region_with (fail)
          all_goals
            go_wp2_with fail
            first
              | exact ⟨⟨k + 1, j2, by go_num, by go_num, by omega, by omega, Lib.hid (by have := HKJ.out; omega), HS2.out, HX2.out⟩, by simp [intOf]; omega⟩
              | exact ⟨⟨k + 1, j2, by go_num, by go_num, by omega, by omega, Lib.hid (by have := HKJ.out; omega), HS2.out.toExt (drew_ext _), trans_ext HX2.out (drew_ext _)⟩, by simp [intOf]; omega⟩
        · have i1 : ¬ (k : Int) < (j : Int) := by omega
          have hS9 : SV 3 1 sI wr (.slice (some ⟨ga, 0, none⟩) (m + 1) c) (upL ps) F := by
            rw [HO.out, ← rvL_end (L := out) (i := k) (by have := HKJ.out; have := HL.out; omega)]
            exact hS
          have HS9 := Lib.hid hS9
          clear hS hS9
          go_wp2_with fail
          refine bodyPost_ret (v := .slice (some ⟨ga, 0, none⟩) out.length c) (by simp [results, Tryz.results41, go_sem, *]) rfl ?_
          show UpP ps w _ _
          have HS9 := Lib.hid (show SV 3 1 sI wr (.slice (some ⟨ga, 0, none⟩) out.length c) (upL ps) F by rw [HL.out]; exact HS9.out)
          exact ⟨_, F, rfl, trans_ext xW hy, HS9.out, fun b hb => by have := HF.out b hb; omega⟩
end Go.Proofs.YtfigcfajkilhiaaGreat
