/- The reference's draws for rationals as text. -/
import Derived.Test.YthhdmdmjadpgjaaDraw6
import Derived.Test.YthhdmdmjadpgjaaDraw3
import Derived.Test.YthhdmdmjadpgjaaRatTexts
import Derived.Test.YthhdmdmjadpgjaaRatFPl
namespace Go.Proofs.Ythhdmdmjadpgjaa
open Go.RowKit

def DfrP (w : World) (e : Ending) (w' : World) : Prop := ∃ r : Int × Int, e = .returned (.agg #[.int .i64 r.1, .int .i64 r.2]) ∧ ∃ y, w' = ext w y
set_option maxRecDepth 100000 in
set_option maxHeartbeats 4000000 in
theorem DrawFormatRational_any {A : Option Addr} {c : Nat} {bs : List UInt8} {w : World} (hx : bs.length ≤ 1048576) (h1 : RU w A bs) :
    Calls Try.prog 5 #[.slice A bs.length c] w (DfrP w) := by
  go_enter Try.func5, Try.ntmps5
  go_upto_region 1 with fail
  refine wp_name ?_
  intro W hW
  have xW : ∃ y, W = ext w y := by rw [hW.out]; exact (by refine Chg.isExt (F := []) ?_ (refl_ext _) (by simp); repeat (with_reducible (first | exact Chg.refl _ _ | exact Nat.le_refl _ | exact Chg.ofExt (by assumption) | refine Chg.trans0 ?_ (by assumption) | refine Chg.extS ?_ _ | refine Chg.alloc ?_ _ | refine Chg.drew ?_ | refine Chg.setCellE ?_ ?_ _ | refine le_addk ?_ _ | refine le_ext ?_ | refine le_alloc ?_ _ | refine le_setC ?_ _ _ | refine le_drew ?_ | assumption | (refine Nat.le_of_lt ?_; omega) | omega)))
  have BW0 : BoxAt W (w.heap.size) #[.int .i64 0, .int .i64 0] := by rw [hW.out]; refine ⟨?_, fun j => ?_, fun j => ?_⟩ <;> go_simp
  obtain ⟨lW0, bW0, fW0⟩ := BW0
  have cW0_0 : W.cell? ⟨w.heap.size, 0, none⟩ = some (.int .i64 0) := bW0 0
  have cW0_1 : W.cell? ⟨w.heap.size, 1, none⟩ = some (.int .i64 0) := bW0 1
  clear hW
  have RW : BoxAt W w.heap.size #[.int .i64 0, .int .i64 0] := ⟨lW0, bW0, fW0⟩
  clear bW0 fW0 cW0_0 cW0_1
  go_wp2_with fail
  refine (l1New_any hx (h1.toExt xW)).mono ?_
  rintro e w1 ⟨g, rfl, hc1⟩
  have hg1 := hc1.1
  have R1 := RW.toExt hc1.2.1
  have hx1 := hc1.2.1
  go_wp2_with fail
  refine (l2Any_any hc1).mono ?_
  rintro e w2 ⟨r, rfl, hc2, hC2⟩
  have R2 := R1.chg hC2 (by simp; omega)
  obtain ⟨l4, b4, b4', f4⟩ := bx2 R2
  have hx2 : ∃ y, w2 = ext w y := trans_ext xW hc2.2.1
  have HX := Lib.hid hx2
  clear R1 RW R2 hc1 hC2 hc2 hx1 hx2 xW
  go_wp2
  exact bodyPost_ret (v := .agg #[.int .i64 r.1, .int .i64 r.2]) (by simp [results, Try.results5, go_sem, *]) rfl ⟨r, rfl, (((Chg.refl [w.heap.size] w2).setCell (.inl (by simp)) _).setCell (.inl (by simp)) _).isExt HX.out (by simp)⟩
def DstP (n : Nat) (w : World) (e : Ending) (w' : World) : Prop := ∃ s : ByteArray, e = .returned (.string s) ∧ s.size ≤ n ∧ ∃ y, w' = ext w y
theorem ratText_le (r : Int × Int) : (ratText r).size ≤ 41 := by
  by_cases h : isVR r = true
  · exact (ratText_size h).2
  · unfold ratText
    rw [if_neg h]
    decide
set_option maxRecDepth 100000 in
set_option maxHeartbeats 8000000 in
theorem DrawParseRational_any {A : Option Addr} {c : Nat} {bs : List UInt8} {w : World} (hx : bs.length ≤ 1048576) (h1 : RU w A bs) :
    Calls Try.prog 8 #[.slice A bs.length c] w (DstP 1000 w) := by
  go_enter Try.func8, Try.ntmps8
  go_wp2_with fail
  refine (l1New_any hx h1).mono ?_
  rintro e w1 ⟨g, rfl, hc1⟩
  go_wp2_with fail
  refine (l2Rat_any hc1).mono ?_
  rintro e w2 ⟨r, rfl, hc2, hC2⟩
  go_wp2_with fail
  refine specFormatRational_any.mono ?_
  rintro e w3 ⟨rfl, hx3⟩
  have hs := ratText_le (r.1, r.2)
  obtain ⟨s, hs0⟩ : ∃ s, ratText (r.1, r.2) = s := ⟨_, rfl⟩
  rw [hs0] at hs ⊢
  clear hs0
  have hc3 := hc2.toExt hx3
  clear hc1 hc2 hC2
  go_wp2_with fail
  refine (l1Below_any hc3 (by omega) (by omega)).mono ?_
  rintro e w4 ⟨x, rfl, hx0, hx1, hc4, hC4⟩
  by_cases e0 : x = 0
  · have q0 : (x == 0) = true := by simp [e0]
    clear e0
    go_wp2_with fail
    refine (l1Spoil_any hc4 (by omega)).mono ?_
    rintro e w5 ⟨t, rfl, ht, hc5, hC5⟩
    go_wp2
    go_ret
    show DstP 1000 w _ _
    exact ⟨t, rfl, by omega, hc5.2.1⟩
  · have q0 : (x == 0) = false := by simp [e0]
    by_cases e1 : x = 1
    · have q1 : (x == 1) = true := by simp [e1]
      have hg4 := hc4.lt
      clear e0 e1
      go_wp2_with fail
      refine (l1Pick_any (hc4.toExt (alloc_ext _ _)) (by omega) (by omega) (BoxAt.new _ _ _) (by intro j hj; rcases j with _ | _ | _ | _ | _ | _ | _ | _ | _ | _ | _ | _ | j <;> first | exact ⟨_, rfl⟩ | omega) (by omega)).mono ?_
      rintro e w5 ⟨t, j, rfl, hj, ht, hc5, hC5⟩
      have hl : t.size ≤ 1000 := by
        rcases j with _ | _ | _ | _ | _ | _ | _ | _ | _ | _ | _ | _ | j <;> first | omega | (simp at ht; subst ht; decide)
      clear ht
      go_wp2
      go_ret
      show DstP 1000 w _ _
      exact ⟨t, rfl, hl, hc5.2.1⟩
    · have q1 : (x == 1) = false := by simp [e1]
      clear e0 e1
      go_wp2
      go_ret
      show DstP 1000 w _ _
      exact ⟨s, rfl, by omega, hc4.2.1⟩
theorem ratsF_le (rs : List (Int × Int)) (h : rs.length ≤ 4) : (ratsF 0 ⟨#[]⟩ rs).size ≤ 200 := by
  by_cases hv : ∀ r ∈ rs, isVR r = true
  · rw [ratsF_join rs 0 _ hv]
    have key : ∀ (ps : List ByteArray) (k : Nat) (acc : ByteArray), (∀ p ∈ ps, p.size ≤ 41) → (joinF ⟨#[32]⟩ k acc ps).size ≤ acc.size + ps.length * 42 := by
      intro ps
      induction ps with
      | nil => intro k acc _; simp [joinF]
      | cons p ps ih =>
        intro k acc hp
        rw [joinF]
        refine Nat.le_trans (ih _ _ fun q hq => hp q (by simp [hq])) ?_
        have h1 := hp p (by simp)
        rw [ba_size, List.length_cons]
        split
        · rw [ba_size, show (ByteArray.mk #[32]).size = 1 from rfl]; omega
        · omega
    refine Nat.le_trans (key _ _ _ fun p hp => ?_) ?_
    · obtain ⟨r, _, rfl⟩ := List.mem_map.1 hp
      exact ratText_le r
    · rw [List.length_map, show (ByteArray.mk #[]).size = 0 from rfl]; omega
  · rw [ratsF_bad rs 0 _ (by
      simp only [Classical.not_forall] at hv
      obtain ⟨r, hr, hv⟩ := hv
      exact ⟨r, hr, by simpa using hv⟩)]
    decide
set_option maxRecDepth 100000 in
set_option maxHeartbeats 8000000 in
theorem DrawParseRationals_any {A : Option Addr} {c : Nat} {bs : List UInt8} {w : World} (hx : bs.length ≤ 1048576) (h1 : RU w A bs) :
    Calls Try.prog 13 #[.slice A bs.length c] w (DstP 1000 w) := by
  go_enter Try.func13, Try.ntmps13
  go_wp2_with fail
  refine (l1New_any hx h1).mono ?_
  rintro e w1 ⟨g, rfl, hc1⟩
  go_wp2_with fail
  refine (l1Below_any hc1 (by omega) (by omega)).mono ?_
  rintro e w2 ⟨x, rfl, hx0, hx1, hc2, hC2⟩
  obtain ⟨k, rfl⟩ : ∃ k : Nat, x = k := ⟨x.toNat, by omega⟩
  go_wp2_with fail
  refine (l12Weights_any hc2 (by omega)).mono ?_
  rintro e w3 ⟨v, F, ds, rfl, hS, hF, hl, hc3, hC3⟩
  obtain ⟨A1, c1, rfl, _, _, r1⟩ := hS.view sR_v
  have hs := ratsF_le ds (by omega)
  clear hS hF
  go_wp2_with fail
  refine (specFormatRationals_any (by omega) r1).mono ?_
  rintro e w4 ⟨rfl, hx4⟩
  obtain ⟨s, hs0⟩ : ∃ s, ratsF 0 ⟨#[]⟩ ds = s := ⟨_, rfl⟩
  rw [hs0] at hs ⊢
  clear hs0 r1
  have hc4 := hc3.toExt hx4
  clear hc1 hc2 hC2 hc3 hC3
  go_wp2_with fail
  refine (l1Once_any hc4 (by omega) (by omega)).mono ?_
  rintro e w5 ⟨b, rfl, hc5, hC5⟩
  cases b with
  | false =>
    go_wp2
    go_ret
    show DstP 1000 w _ _
    exact ⟨s, rfl, by omega, hc5.2.1⟩
  | true =>
    go_wp2_with fail
    refine (l1Spoil_any hc5 (by omega)).mono ?_
    rintro e w6 ⟨t, rfl, ht, hc6, hC6⟩
    have hg6 := hc6.lt
    go_wp2_with fail
    refine (l1Pick_any (hc6.toExt (alloc_ext _ _)) (by omega) (by omega) (BoxAt.new _ _ _) (by intro j hj; rcases j with _ | _ | _ | _ | _ | _ | j <;> first | exact ⟨_, rfl⟩ | omega) (by omega)).mono ?_
    rintro e w7 ⟨u, j, rfl, hj, hu, hc7, hC7⟩
    have hl : u.size ≤ 1000 := by
      rcases j with _ | _ | _ | _ | _ | _ | j <;> first | omega | (simp at hu; subst hu; first | decide | omega)
    clear hu
    go_wp2
    go_ret
    show DstP 1000 w _ _
    exact ⟨u, rfl, hl, hc7.2.1⟩
theorem DrawFormatRationals_any {A : Option Addr} {c : Nat} {bs : List UInt8} {w : World} (hx : bs.length ≤ 1048576) (h1 : RU w A bs) :
    Calls Try.prog 10 #[.slice A bs.length c] w (DrP w) := by
  go_enter Try.func10, Try.ntmps10
  go_wp2_with fail
  refine (DrawSumRationals_any hx h1).mono ?_
  rintro e w3 ⟨v, F, ds, rfl, hx3, hS, hF, hl⟩
  go_wp2
  go_ret
  show DrP w _ _
  exact ⟨_, F, ds, rfl, hx3, hS, hF, hl⟩
end Go.Proofs.Ythhdmdmjadpgjaa
