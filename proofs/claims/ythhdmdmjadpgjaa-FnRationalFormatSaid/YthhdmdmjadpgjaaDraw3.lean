/- The reference's draws of lists of weights. -/
import Derived.Test.YthhdmdmjadpgjaaDraw2
import Derived.Test.YthhdmdmjadpgjaaApp
namespace Go.Proofs.Ythhdmdmjadpgjaa
open Go.RowKit

def WtP (w0 : World) (g n : Nat) (w : World) (e : Ending) (w' : World) : Prop := ∃ v F ds, e = .returned v ∧ SV 25 2 sR w' v ds F ∧ (∀ b ∈ F, w.heap.size ≤ b) ∧ ds.length ≤ n ∧ Cur w0 w' g ∧ Chg [g] w w'
set_option maxRecDepth 100000 in
set_option maxHeartbeats 8000000 in
theorem l12Weights_any {g n : Nat} {w0 w : World} (hc : Cur w0 w g) (hn : n ≤ 10) :
    Calls Try.prog 33 #[.pointer (some ⟨g, 0, none⟩), .int .i64 n] w (WtP w0 g n w) := by
  have hgw := hc.lt
  have hS0 := SV.empty (α := Int × Int) (te := 25) (size := 2) (E := sR) w
  have hc0 := hc.toExt (alloc_ext w (.cells #[] 25))
  go_enter Try.func33, Try.ntmps33
  go_wp2
  go_loopw [5] (fun v wr => ∃ (ds : List (Int × Int)) (F : List Nat), SV 25 2 sR wr v ds F ∧ (∀ b ∈ F, w.heap.size ≤ b) ∧ ds.length ≤ n ∧ Cur w0 wr g ∧ Chg [g] w wr) (fun v _ => n - lenR v)
  case atStart => exact ⟨[], [w.heap.size], hS0, by simp, by simp, hc0, (Chg.refl [g] w).alloc _⟩
  case round =>
    clear hS0 hc0 hc
    obtain ⟨ds, F, hS, hF, hl, hcr, hC⟩ := hrel
    have HF := Lib.hid hF
    have HS := Lib.hid hS
    have HC := Lib.hid hC
    have hgr := hcr.lt
    have hzr := hC.size
    have ngF : Hid (∀ b ∈ F, b ∉ [g]) := Lib.hid (fun b hb h => by have := hF b hb; simp at h; omega)
    obtain ⟨A, cap, rfl, _, _⟩ := hS.form
    clear hS hF hC
    by_cases hlt : ds.length < n
    · go_wp2_with fail
      refine (l1Below_any hcr (by omega) (by omega)).mono ?_
      rintro e w1 ⟨x, rfl, hx0, hx1, hc1, hC1⟩
      have hg1 := hc1.lt
      have hS1 := HS.out.chg hC1 ngF.out
      go_wp2_with fail
      refine (l1PickInt_any (hc1.toExt (alloc_ext _ _)) (by omega) (by omega) (BoxAt.new _ _ _) (by intro j hj; rcases j with _ | _ | _ | _ | j <;> first | exact ⟨_, rfl⟩ | omega) (by omega)).mono ?_
      rintro e w2 ⟨x5, j5, rfl, hj5, hx5, hc2, hC2⟩
      have hb5 : 1 ≤ x5 ∧ x5 ≤ 3 := (by rcases j5 with _ | _ | _ | _ | j <;> simp at hx5 <;> omega)
      obtain ⟨p5, q5⟩ := hb5
      have hS2 := (hS1.toExt (alloc_ext _ _)).chg hC2 ngF.out
      clear hx5
      go_wp2_with fail
      refine (specNewRational_any (by omega) (by omega) (by omega) (by omega)).mono ?_
      rintro e w3 ⟨rfl, hx3⟩
      have hS3 := hS2.toExt hx3
      have hc3 := hc2.toExt hx3
      have hC3 : Chg [g] w w3 := ((((HC.out.trans hC1 (fun x hx => .inl hx)).alloc _).trans hC2 (fun x hx => .inl hx))).trans0 hx3
      obtain ⟨r, hr⟩ : ∃ r, (newR x x5).getD (0, 0) = r := ⟨_, rfl⟩
      rw [hr]
      have HC3 := Lib.hid hC3
      have Hc3 := Lib.hid hc3
      have HS3 := Lib.hid hS3
      clear hr hS1 hS2 hS3 hc1 hc2 hc3 hC1 hC2 hC3
      go_wp2_with (at_builtin; refine wpList_app1 (E := sR) (d := r) rfl _ _ _ rfl tR rfl rfl rfl (by simp) (fun _ => ⟨rfl, rfl⟩) rfl (by simp [Value.oneCell']) (HS3.out.toExt (alloc_ext _ _)) (by omega) (by omega) ?_; intro v' w' F' hS' hC' hF')
      have hz3 := HC3.out.size
      have hnF : ∀ b ∈ F', w.heap.size ≤ b := fun b hb => by
        rcases hF' b hb with h | h
        · exact HF.out b h
        · simp at h; omega
      have hw0 : w0.heap.size ≤ w.heap.size := Nat.le_trans Hc3.out.1 (by omega)
      have hcF := (Hc3.out.toExt (alloc_ext _ _)).chg hC' (fun h => ngF.out g h (by simp)) (fun b hb => Nat.le_trans hw0 (HF.out b hb))
      exact ⟨⟨ds ++ [r], F', hS', hnF, by simp; omega, hcF, (HC3.out.alloc _).trans hC' (fun x hx => .inr (HF.out x hx))⟩, by have e := hS'.form; obtain ⟨A', c', rfl, _⟩ := e; simp [lenR]; omega⟩
    · by_cases hpos : 0 < ds.length
      · obtain ⟨gb, cap', hv, hgbF, _, _⟩ := HS.out.block (by intro e; rw [e] at hpos; simp at hpos)
        injection hv with hA _ hcap
        subst hA hcap
        go_wp2_with fail
        refine (l1Once_any hcr (by omega) (by omega)).mono ?_
        rintro e w1 ⟨t, rfl, hc1, hC1⟩
        have hS1 := HS.out.chg hC1 ngF.out
        have hCw := HC.out.trans hC1 (fun x hx => .inl hx)
        cases t with
        | false =>
          go_wp2
          go_ret
          show WtP w0 g n w _ _
          exact ⟨_, F, ds, rfl, hS1, HF.out, hl, hc1, hCw⟩
        | true =>
          go_wp2_with fail
          refine (l2Any_any hc1).mono ?_
          rintro e w2 ⟨r, rfl, hc2, hC2⟩
          have hS2 := hS1.chg hC2 ngF.out
          obtain ⟨⟨u, hu⟩, hf, hgb⟩ := hS2.cell rfl (j := 0) (by omega)
          obtain ⟨⟨u1, hu1⟩, _, _⟩ := hS2.cell rfl (j := 1) (by omega)
          obtain ⟨s1, s2⟩ := hS2.set2 rfl (k := 0) hpos (u := .int .i64 r.1) (v := .int .i64 r.2) (d := r) (fun _ => ⟨rfl, rfl⟩)
          simp only [Nat.zero_mul, Nat.zero_add] at s1 s2
          have H1 := Lib.hid s1
          have hgbw := HF.out gb hgbF
          have hcF := hc2.chg s2 (fun h => by simp at h; omega) (fun b hb => by simp at hb; rw [hb]; exact Nat.le_trans hc2.1 (by omega))
          have HcF := Lib.hid hcF
          have HCf := Lib.hid ((hCw.trans hC2 (fun x hx => .inl hx)).trans s2 (fun x hx => .inr (by simp at hx; omega)))
          clear hS1 hS2 s1 s2 hcF hc1 hc2 hC1 hC2 hCw
          go_wp2
          go_ret
          show WtP w0 g n w _ _
          exact ⟨_, F, ds.set 0 r, rfl, H1.out, HF.out, by simp; omega, HcF.out, HCf.out⟩
      · go_wp2
        go_ret
        show WtP w0 g n w _ _
        exact ⟨_, F, ds, rfl, HS.out, HF.out, hl, hcr, HC.out⟩
def DrP (w : World) (e : Ending) (w' : World) : Prop := ∃ v F ds, e = .returned v ∧ (∃ y, w' = ext w y) ∧ SV 25 2 sR w' v ds F ∧ (∀ b ∈ F, w.heap.size ≤ b) ∧ ds.length ≤ 4
set_option maxHeartbeats 1000000 in
theorem DrawSumRationals_any {A : Option Addr} {c : Nat} {bs : List UInt8} {w : World} (hx : bs.length ≤ 1048576) (h1 : RU w A bs) :
    Calls Try.prog 31 #[.slice A bs.length c] w (DrP w) := by
  go_enter Try.func31, Try.ntmps31
  go_wp2_with fail
  refine (l1New_any hx h1).mono ?_
  rintro e w1 ⟨g, rfl, hc1⟩
  go_wp2_with fail
  refine (l1Below_any hc1 (by omega) (by omega)).mono ?_
  rintro e w2 ⟨x, rfl, hx0, hx1, hc2, hC2⟩
  obtain ⟨k, rfl⟩ : ∃ k : Nat, x = k := ⟨x.toNat, by omega⟩
  go_wp2_with fail
  refine (l12Weights_any hc2 (by omega)).mono ?_
  rintro e w3 ⟨v, F, ds, rfl, hS, hF, hl, hc3, hC3⟩
  go_wp2
  go_ret
  show DrP w _ _
  have hz2 := hC2.size
  have hz1 := size_of_ext hc1.2.1
  exact ⟨_, F, ds, rfl, hc3.2.1, hS, fun b hb => by have := hF b hb; omega, by omega⟩
end Go.Proofs.Ythhdmdmjadpgjaa
