/- Contracts of functions that the statement reaches. -/
import Derived.Deep.RegionLaw
import Derived.Deep.DrawnRows
import Derived.Deep.DeepCutAuto
import Derived.Test.YtgnmpjjlclbieaaT04
import Derived.Test.YtgnmpjjlclbieaaT05
import Derived.Test.YtgnmpjjlclbieaaT06
import Derived.Test.YtgnmpjjlclbieaaT02
namespace Go.Proofs.Ytgnmpjjlclbieaa
open Go.RowKit
def DbOut (d : Dbd) (w : World) (e : Ending) (w' : World) : Prop := ∃ v F, e = .returned (.agg #[v]) ∧ (∃ y, w' = ext w y) ∧ sDb w' [v] d F ∧ F.Nodup ∧ ∀ b ∈ F, w.heap.size ≤ b
set_option maxRecDepth 100000 in
set_option maxHeartbeats 16000000 in
theorem copyDatabase_any {A : Option Addr} {c : Nat} {d : Dbd} {w : World} (hd : WDb d) (h1 : RV 3 vTb w A d) :
    Calls Try.prog 22 #[.agg #[.slice A d.length c]] w (DbOut d w) := by
  have HD := Lib.hid hd
  have hn := hd.n
  clear hd
  go_enter Try.func22, Try.ntmps22
  go_upto_region 1 with fail
  refine wp_name ?_
  intro w0 hw0
  have hx0 : ∃ y, w0 = ext w y := by rw [hw0.out]; exact (by refine x'z ?_; repeat (with_reducible (first | exact x'a _ _ | exact x'b _ | exact x'c (by assumption) | refine x'd ?_ (by assumption) | refine x'e ?_ _ | refine x'f ?_ _ | refine x'g ?_ | refine x'h ?_ ?_ _ | refine x'i ?_ _ | refine x'j ?_ | refine x'k ?_ _ | refine x'l ?_ _ _ | refine x'm ?_ | assumption | (refine x'n ?_; omega) | omega)))
  have P0 : BoxAt w0 w.heap.size #[.slice A d.length c] := by rw [hw0.out]; exact (by repeat (with_reducible (first | assumption | exact BoxAt.new _ _ _ | apply BoxAt.set10 | apply BoxAt.set2 | refine BoxAt.set2' ?_ (by omega) | apply BoxAt.setP0 | apply BoxAt.setP1 | refine BoxAt.setO ?_ (by omega) | refine BoxAt.alloc ?_ _ | refine BoxAt.drew ?_ | refine BoxAt.toExt ?_ (by assumption))))
  have R0 : BoxAt w0 (w.heap.size + 1) #[.slice none 0 0] := by
    rw [hw0.out]
    simpa using BoxAt.new (w.alloc (.cells #[.slice A d.length c] 32)) #[.slice none 0 0] 32
  obtain ⟨l0, k0, f0⟩ := bx1 P0
  obtain ⟨m0, n0, g0⟩ := bx1 R0
  clear hw0
  go_upto_region 2 with fail
  refine wp_name ?_
  intro W hW
  have xW : ∃ y, W = ext w0 y := by rw [hW.out]; exact (by refine x'z ?_; repeat (with_reducible (first | exact x'a _ _ | exact x'b _ | exact x'c (by assumption) | refine x'd ?_ (by assumption) | refine x'e ?_ _ | refine x'f ?_ _ | refine x'g ?_ | refine x'h ?_ ?_ _ | refine x'i ?_ _ | refine x'j ?_ | refine x'k ?_ _ | refine x'l ?_ _ _ | refine x'm ?_ | assumption | (refine x'n ?_; omega) | omega)))
  have X0 : BoxAt W w0.heap.size #[.slice none 0 0] := by rw [hW.out]; exact (by repeat (with_reducible (first | assumption | exact BoxAt.new _ _ _ | apply BoxAt.set10 | apply BoxAt.set2 | refine BoxAt.set2' ?_ (by omega) | apply BoxAt.setP0 | apply BoxAt.setP1 | refine BoxAt.setO ?_ (by omega) | refine BoxAt.alloc ?_ _ | refine BoxAt.drew ?_ | refine BoxAt.toExt ?_ (by assumption))))
  have P1 := P0.toExt xW
  have R1 := R0.toExt xW
  have hxw := trans_ext hx0 xW
  have hpx : w.heap.size ≠ w0.heap.size := by omega
  have hrx : w.heap.size + 1 ≠ w0.heap.size := by omega
  have hw0s : w.heap.size < w0.heap.size := l0
  obtain ⟨bX, qX⟩ : ∃ b, w0.heap.size = b := ⟨_, rfl⟩
  rw [qX] at X0 hpx hrx hw0s ⊢
  have hXw : bX < W.heap.size := X0.1
  have hsz := Lib.hid (size_of_ext hxw)
  clear hW qX P0 R0 l0 k0 f0 m0 n0 g0
  obtain ⟨lp1, p1, fp1⟩ := bx1 P1
  go_wp2_with fail
  clear lp1 p1 fp1
  go_loopw [9] (fun i wr => ∃ (k : Nat) (A' : Option Addr) (c' : Nat) (F : List Nat), i = .int .i64 k ∧ k ≤ d.length ∧ BoxAt wr bX #[.slice A' k c'] ∧ SV 46 3 sTb wr (.slice A' k c') (d.take k) F ∧ Hid F.Nodup ∧ Hid (∀ b ∈ F, W.heap.size ≤ b) ∧ Chg [bX] W wr) (fun i _ => d.length - (intOf i).toNat)
  case atStart => exact ⟨0, none, 0, [], rfl, by omega, X0, SV.nil, Lib.hid (by simp), Lib.hid (by simp), Chg.refl _ _⟩
  case round =>
    obtain ⟨k, A', c', F, rfl, hk, hB, hS, HN, HF, hC⟩ := hrel
    have hw : ∃ y, wr = ext w y := hC.isExt hxw (by simpa using Nat.le_of_lt hw0s)
    by_cases hlt : k < d.length
    · obtain ⟨b, o, A1, c1, rfl, hb, hc, hc1, hc2, hvx⟩ := (h1.toExt hw).atT hlt
      have lx2 := HD.out.rn _ (List.getElem_mem hlt)
      have HXL := Lib.hid (HD.out.rl _ (List.getElem_mem hlt))
      have Ht := Lib.hid (show d.take (k + 1) = d.take k ++ [d[k]] from List.take_succ_eq_append_getElem hlt)
      have hlk : (d.take k).length + 1 ≤ 2000000000 := by simp; omega
      have HL := Lib.hid (show (d.take k).length = k by simp; omega)
      have hSlt := Lib.hid hS.lt
      have HS := Lib.hid hS
      have hsC := hC.size
      have HP := Lib.hid (P1.chg hC (by simpa using hpx))
      have HV := Lib.hid (vII_get (vRel_get hvx).2).2
      obtain ⟨x, hx1⟩ : ∃ x, d[k] = x := ⟨_, rfl⟩
      rw [hx1] at hc hc1 hc2 lx2 HXL Ht HV
      have HB := Lib.hid hB
      have HC := Lib.hid hC
      have hbX : bX < wr.heap.size := hB.1
      have hXF : bX ∉ F := fun h => by have := HF.out bX h; omega
      clear hx1 hvx
      clear hC hB hS
      go_upto_region 5 with fail
      refine wp_name ?_
      intro W2 hW2
      have xW2 : ∃ y, W2 = ext wr y := by rw [hW2.out]; exact (by refine x'z ?_; repeat (with_reducible (first | exact x'a _ _ | exact x'b _ | exact x'c (by assumption) | refine x'd ?_ (by assumption) | refine x'e ?_ _ | refine x'f ?_ _ | refine x'g ?_ | refine x'h ?_ ?_ _ | refine x'i ?_ _ | refine x'j ?_ | refine x'k ?_ _ | refine x'l ?_ _ _ | refine x'm ?_ | assumption | (refine x'n ?_; omega) | omega)))
      have T2 : BoxAt W2 wr.heap.size #[.string x.1, .int .i64 x.2.1, .slice A1 x.2.2.length c1] := by rw [hW2.out]; exact (by repeat (with_reducible (first | assumption | exact BoxAt.new _ _ _ | apply BoxAt.set3 | refine BoxAt.set3' ?_ (by omega) | apply BoxAt.set30 | apply BoxAt.set31 | apply BoxAt.set32 | apply BoxAt.set2 | refine BoxAt.set2' ?_ (by omega) | apply BoxAt.setP0 | apply BoxAt.setP1 | refine BoxAt.setO ?_ (by omega) | refine BoxAt.alloc ?_ _ | refine BoxAt.drew ?_ | refine BoxAt.toExt ?_ (by assumption))))
      have HB2 := Lib.hid (HB.out.toExt xW2)
      have HS2 := Lib.hid (HS.out.toExt xW2)
      have HV2 := Lib.hid (HV.out.toExt xW2)
      have HT2 := Lib.hid T2
      have hz2 := size_of_ext xW2
      have HFl : Hid (∀ b ∈ F, b < W2.drew.heap.size) := Lib.hid (fun b hb => Nat.lt_of_lt_of_le (hSlt.out b hb) (by simpa using hz2))
      obtain ⟨l2, a2, a3, a4, f2⟩ := box3 T2
      obtain ⟨lb2, b2, fb2⟩ := bx1 HB2.out
      clear hW2 hc hc1 hc2 T2
      go_region_law (first
        | (refine step_appB (E := sTb) (d := x) (G := F9) (cs := #[.string x.1, .int .i64 x.2.1, .slice A9 x.2.2.length c9]) (by rfl) _ _ _ (by rfl) tTb (by rfl) (by rfl) (by exact BoxAt.new _ _ _) (sTb_mk (OD.toExt hS9 (alloc_ext _ _))) (by rfl) (by simp [Value.oneCell']) (SA9.toExt (alloc_ext _ _)) hNN (by rw [HL.out]; omega) (by omega) ?_; intro v7 w7 F7 hS7 hC7 hN7 hF7; obtain ⟨A7, c7, rfl, _, _⟩ := hS7.form; have B7 := (B9.alloc (.cells #[.string x.1, .int .i64 x.2.1, .slice A9 x.2.2.length c9] 46)).chg hC7 hXF; obtain ⟨l7, k7, f7⟩ := bx1 B7)
        | (rw [if_pos (by simp [Region.wanted])]; go_wp2_with (go_at_call 23; refine (copyRelation_any lx2 HXL.out (HV2.out.toExt (by refine x'z ?_; repeat (with_reducible (first | exact x'a _ _ | exact x'b _ | exact x'c (by assumption) | refine x'd ?_ (by assumption) | refine x'e ?_ _ | refine x'f ?_ _ | refine x'g ?_ | refine x'h ?_ ?_ _ | refine x'i ?_ _ | refine x'j ?_ | refine x'k ?_ _ | refine x'l ?_ _ _ | refine x'm ?_ | assumption | (refine x'n ?_; omega) | omega))))).mono ?_; rintro e w9 ⟨u9, v9, F9, rfl, hx9, hS9, hN9, hF9⟩; obtain ⟨A9, c9, rfl, rfl, _⟩ := sRel_form hS9; have B9 := HB2.out.drew.toExt hx9; obtain ⟨l9, k9, f9⟩ := bx1 B9; obtain ⟨lt9, t90, t91, t92, ft9⟩ := box3 (HT2.out.drew.toExt hx9); have SA9 := (HS2.out.toExt (drew_ext W2)).toExt hx9; have hz9 := size_of_ext hx9; have hNN := nodup_more HN.out hN9 HFl.out hF9)))
      all_goals
        have hF7n : ∀ b ∈ F7, W.heap.size ≤ b := fun b hb => by
          rcases hF7 b hb with h | h | h
          · exact HF.out b h
          · have := hF9 b h; simp at this; omega
          · rw [World.size_alloc] at h; simp at hz9; omega
        have hCa := ((((((HC.out.trans0 xW2).drew).trans0 hx9).alloc (.cells #[.string x.1, .int .i64 x.2.1, .slice A9 x.2.2.length c9] 46)).trans hC7 (fun x hx => .inr (HF.out x hx)))).setCell (p := ⟨bX, 0, none⟩) (.inl (by simp)) (.slice A7 ((d.take k) ++ [x]).length c7)
        clear SA9 hS9 hF9 B9
        have hSf := hS7.chg ((Chg.refl [bX] w7).setCell (p := ⟨bX, 0, none⟩) (.inl (by simp)) (.slice A7 ((d.take k) ++ [x]).length c7)) (fun b hb h => by have := hF7n b hb; rw [List.mem_singleton.1 h] at this; omega)
        have hBf := B7.set10 (u := .slice A7 ((d.take k) ++ [x]).length c7)
        have hl1 : ((d.take k) ++ [x]).length = k + 1 := by simp; omega
        rw [hl1, ← Ht.out] at hSf
        rw [hl1] at hBf hCa
        have HH := Lib.hid (And.intro hSf (And.intro hBf (And.intro hCa hF7n)))
        have HN7 := Lib.hid hN7
        have HL1 := Lib.hid hl1
        clear hCa hF7n hSf hBf hS7 hC7 hN7 hF7 B7 hl1
        go_wp2
        exact ⟨⟨k + 1, A7, c7, F7, by go_num, by omega, HH.out.2.1, HH.out.1, HN7, Lib.hid HH.out.2.2.2, HH.out.2.2.1⟩, by simp [intOf]; omega⟩
    · obtain rfl : k = d.length := by omega
      rw [List.take_of_length_le (Nat.le_refl _)] at hS
      have R2 := R1.chg hC (by simpa using hrx)
      obtain ⟨m0, n0, g0⟩ := bx1 R2
      obtain ⟨lx, x0, fx⟩ := bx1 hB
      have hXw : bX < wr.heap.size := hB.1
      go_wp2
      refine bodyPost_ret (v := .agg #[.slice A' d.length c']) (by simp [results, Try.results22, go_sem, *]) rfl ⟨_, F, rfl, (by refine x'z ?_; repeat (with_reducible (first | exact x'a _ _ | exact x'b _ | exact x'c (by assumption) | refine x'd ?_ (by assumption) | refine x'e ?_ _ | refine x'f ?_ _ | refine x'g ?_ | refine x'h ?_ ?_ _ | refine x'i ?_ _ | refine x'j ?_ | refine x'k ?_ _ | refine x'l ?_ _ _ | refine x'm ?_ | assumption | (refine x'n ?_; omega) | omega))), OD.chg (E := sDb) (G := [w.heap.size + 1]) ⟨_, rfl, hS⟩ (by repeat (with_reducible (first | exact Chg.refl _ _ | refine Chg.trans0 ?_ (by assumption) | refine Chg.extS ?_ _ | refine Chg.alloc ?_ _ | refine Chg.drew ?_ | refine Chg.setCell ?_ (.inl (by simp)) _))) ?_, HN.out, ?_⟩
      · intro b hb h
        have := HF.out b hb
        have := hsz.out
        simp at h
        omega
      · intro b hb
        have := HF.out b hb
        have := hsz.out
        omega
set_option maxRecDepth 100000 in
set_option maxHeartbeats 16000000 in
theorem l6Copy_any {A : Option Addr} {c : Nat} {d : Dbd} {w : World} (hd : WDb d) (h1 : RV 3 vTb w A d) :
    Calls Try.prog 18 #[.agg #[.slice A d.length c]] w (DbOut d w) := by
  have HD := Lib.hid hd
  have hn := hd.n
  clear hd
  go_enter Try.func18, Try.ntmps18
  go_upto_region 1 with fail
  refine wp_name ?_
  intro w0 hw0
  have hx0 : ∃ y, w0 = ext w y := by rw [hw0.out]; exact (by refine x'z ?_; repeat (with_reducible (first | exact x'a _ _ | exact x'b _ | exact x'c (by assumption) | refine x'd ?_ (by assumption) | refine x'e ?_ _ | refine x'f ?_ _ | refine x'g ?_ | refine x'h ?_ ?_ _ | refine x'i ?_ _ | refine x'j ?_ | refine x'k ?_ _ | refine x'l ?_ _ _ | refine x'm ?_ | assumption | (refine x'n ?_; omega) | omega)))
  have P0 : BoxAt w0 w.heap.size #[.slice A d.length c] := by rw [hw0.out]; exact (by repeat (with_reducible (first | assumption | exact BoxAt.new _ _ _ | apply BoxAt.set10 | apply BoxAt.set2 | refine BoxAt.set2' ?_ (by omega) | apply BoxAt.setP0 | apply BoxAt.setP1 | refine BoxAt.setO ?_ (by omega) | refine BoxAt.alloc ?_ _ | refine BoxAt.drew ?_ | refine BoxAt.toExt ?_ (by assumption))))
  have R0 : BoxAt w0 (w.heap.size + 1) #[.slice none 0 0] := by
    rw [hw0.out]
    simpa using BoxAt.new (w.alloc (.cells #[.slice A d.length c] 32)) #[.slice none 0 0] 32
  obtain ⟨l0, k0, f0⟩ := bx1 P0
  obtain ⟨m0, n0, g0⟩ := bx1 R0
  clear hw0
  go_upto_region 2 with fail
  refine wp_name ?_
  intro W hW
  have xW : ∃ y, W = ext w0 y := by rw [hW.out]; exact (by refine x'z ?_; repeat (with_reducible (first | exact x'a _ _ | exact x'b _ | exact x'c (by assumption) | refine x'd ?_ (by assumption) | refine x'e ?_ _ | refine x'f ?_ _ | refine x'g ?_ | refine x'h ?_ ?_ _ | refine x'i ?_ _ | refine x'j ?_ | refine x'k ?_ _ | refine x'l ?_ _ _ | refine x'm ?_ | assumption | (refine x'n ?_; omega) | omega)))
  have X0 : BoxAt W w0.heap.size #[.slice none 0 0] := by rw [hW.out]; exact (by repeat (with_reducible (first | assumption | exact BoxAt.new _ _ _ | apply BoxAt.set10 | apply BoxAt.set2 | refine BoxAt.set2' ?_ (by omega) | apply BoxAt.setP0 | apply BoxAt.setP1 | refine BoxAt.setO ?_ (by omega) | refine BoxAt.alloc ?_ _ | refine BoxAt.drew ?_ | refine BoxAt.toExt ?_ (by assumption))))
  have P1 := P0.toExt xW
  have R1 := R0.toExt xW
  have hxw := trans_ext hx0 xW
  have hpx : w.heap.size ≠ w0.heap.size := by omega
  have hrx : w.heap.size + 1 ≠ w0.heap.size := by omega
  have hw0s : w.heap.size < w0.heap.size := l0
  obtain ⟨bX, qX⟩ : ∃ b, w0.heap.size = b := ⟨_, rfl⟩
  rw [qX] at X0 hpx hrx hw0s ⊢
  have hXw : bX < W.heap.size := X0.1
  have hsz := Lib.hid (size_of_ext hxw)
  clear hW qX P0 R0 l0 k0 f0 m0 n0 g0
  obtain ⟨lp1, p1, fp1⟩ := bx1 P1
  go_wp2_with fail
  clear lp1 p1 fp1
  go_loopw [4] (fun i wr => ∃ (k : Nat) (A' : Option Addr) (c' : Nat) (F : List Nat), i = .int .i64 k ∧ k ≤ d.length ∧ BoxAt wr bX #[.slice A' k c'] ∧ SV 46 3 sTb wr (.slice A' k c') (d.take k) F ∧ Hid F.Nodup ∧ Hid (∀ b ∈ F, W.heap.size ≤ b) ∧ Chg [bX] W wr) (fun i _ => d.length - (intOf i).toNat)
  case atStart => exact ⟨0, none, 0, [], rfl, by omega, X0, SV.nil, Lib.hid (by simp), Lib.hid (by simp), Chg.refl _ _⟩
  case round =>
    obtain ⟨k, A', c', F, rfl, hk, hB, hS, HN, HF, hC⟩ := hrel
    have hw : ∃ y, wr = ext w y := hC.isExt hxw (by simpa using Nat.le_of_lt hw0s)
    obtain ⟨lp, p0, fp⟩ := bx1 (P1.chg hC (by simpa using hpx))
    by_cases hlt : k < d.length
    · obtain ⟨b, o, A1, c1, rfl, hb, hc, hc1, hc2, hvx⟩ := (h1.toExt hw).atT hlt
      have lx2 := HD.out.rn _ (List.getElem_mem hlt)
      have HXL := Lib.hid (HD.out.rl _ (List.getElem_mem hlt))
      have Ht := Lib.hid (show d.take (k + 1) = d.take k ++ [d[k]] from List.take_succ_eq_append_getElem hlt)
      have hlk : (d.take k).length + 1 ≤ 2000000000 := by simp; omega
      have HL := Lib.hid (show (d.take k).length = k by simp; omega)
      have hSlt := Lib.hid hS.lt
      have HS := Lib.hid hS
      have hsC := hC.size
      have HP := Lib.hid (P1.chg hC (by simpa using hpx))
      have HV := Lib.hid (vII_get (vRel_get hvx).2).2
      obtain ⟨x, hx1⟩ : ∃ x, d[k] = x := ⟨_, rfl⟩
      rw [hx1] at hc hc1 hc2 lx2 HXL Ht HV
      have HB := Lib.hid hB
      have HC := Lib.hid hC
      have hbX : bX < wr.heap.size := hB.1
      have hXF : bX ∉ F := fun h => by have := HF.out bX h; omega
      clear hx1 hvx
      clear hC hB hS
      go_upto_region 6 with (go_at_call 33; refine (l5Copy_any lx2 HXL.out HV.out).mono ?_; rintro e w2 ⟨u2, v2, F9, rfl, hx2, hS2, hN9, hF9⟩; obtain ⟨A9, c9, rfl, rfl, _⟩ := sRel_form hS2)
      refine wp_name ?_
      intro W2 hW2
      have x22 : ∃ y, W2 = ext w2 y := by rw [hW2.out]; exact (by refine x'z ?_; repeat (with_reducible (first | exact x'a _ _ | exact x'b _ | exact x'c (by assumption) | refine x'd ?_ (by assumption) | refine x'e ?_ _ | refine x'f ?_ _ | refine x'g ?_ | refine x'h ?_ ?_ _ | refine x'i ?_ _ | refine x'j ?_ | refine x'k ?_ _ | refine x'l ?_ _ _ | refine x'm ?_ | assumption | (refine x'n ?_; omega) | omega)))
      have T2 : BoxAt W2 w2.heap.size #[.int .i64 x.2.1, .slice A9 x.2.2.length c9] := by rw [hW2.out]; exact (by repeat (with_reducible (first | assumption | exact BoxAt.new _ _ _ | apply BoxAt.set2 | refine BoxAt.set2' ?_ (by omega) | apply BoxAt.setP0 | apply BoxAt.setP1 | refine BoxAt.setO ?_ (by omega) | refine BoxAt.alloc ?_ _ | refine BoxAt.drew ?_ | refine BoxAt.toExt ?_ (by assumption))))
      have xW2 := trans_ext hx2 x22
      have hS9 : sRel W2 [.int .i64 x.2.1, .slice A9 x.2.2.length c9] x.2 F9 := OD.toExt hS2 x22
      have HB2 := Lib.hid (HB.out.toExt xW2)
      have HS2 := Lib.hid (HS.out.toExt xW2)
      have HP2 := Lib.hid (HP.out.toExt xW2)
      have HS9 := Lib.hid hS9
      have hz2 := size_of_ext hx2
      have hz22 := size_of_ext x22
      have hNN := nodup_more HN.out hN9 hSlt.out hF9
      have HNN := Lib.hid hNN
      have hcx := cellW xW2 hb hc
      have hbx := ltW xW2 hb
      obtain ⟨l2, a2, a3, f2⟩ := bx2 T2
      obtain ⟨lb2, b2, fb2⟩ := bx1 HB2.out
      obtain ⟨lp2, p2, fp2⟩ := bx1 HP2.out
      clear hW2 hc hc1 hc2 T2 hNN hS2 hS9
      go_region_law (first
        | (refine step_appB (E := sTb) (d := x) (G := F9) (cs := #[.string x.1, .int .i64 x.2.1, .slice A9 x.2.2.length c9]) (by rfl) _ _ _ (by rfl) tTb (by rfl) (by rfl) (by exact BoxAt.new _ _ _) (sTb_mk (OD.toExt HS9.out (by refine x'z ?_; repeat (with_reducible (first | exact x'a _ _ | exact x'b _ | exact x'c (by assumption) | refine x'd ?_ (by assumption) | refine x'e ?_ _ | refine x'f ?_ _ | refine x'g ?_ | refine x'h ?_ ?_ _ | refine x'i ?_ _ | refine x'j ?_ | refine x'k ?_ _ | refine x'l ?_ _ _ | refine x'm ?_ | assumption | (refine x'n ?_; omega) | omega))))) (by rfl) (by simp [Value.oneCell']) (HS2.out.toExt (by refine x'z ?_; repeat (with_reducible (first | exact x'a _ _ | exact x'b _ | exact x'c (by assumption) | refine x'd ?_ (by assumption) | refine x'e ?_ _ | refine x'f ?_ _ | refine x'g ?_ | refine x'h ?_ ?_ _ | refine x'i ?_ _ | refine x'j ?_ | refine x'k ?_ _ | refine x'l ?_ _ _ | refine x'm ?_ | assumption | (refine x'n ?_; omega) | omega)))) HNN.out (by rw [HL.out]; omega) (by omega) ?_; intro v7 w7 F7 hS7 hC7 hN7 hF7; obtain ⟨A7, c7, rfl, _, _⟩ := hS7.form; have B7 := ((HB2.out.drew).alloc (.cells #[.string x.1, .int .i64 x.2.1, .slice A9 x.2.2.length c9] 46)).chg hC7 hXF; obtain ⟨l7, k7, f7⟩ := bx1 B7))
      all_goals
        have hF7n : ∀ b ∈ F7, W.heap.size ≤ b := fun b hb => by
          rcases hF7 b hb with h | h | h
          · exact HF.out b h
          · have := hF9 b h; omega
          · simp at h; omega
        have hCa := (((((HC.out.trans0 xW2).drew).alloc (.cells #[.string x.1, .int .i64 x.2.1, .slice A9 x.2.2.length c9] 46)).trans hC7 (fun x hx => .inr (HF.out x hx)))).setCell (p := ⟨bX, 0, none⟩) (.inl (by simp)) (.slice A7 ((d.take k) ++ [x]).length c7)
        clear hF9
        have hSf := hS7.chg ((Chg.refl [bX] w7).setCell (p := ⟨bX, 0, none⟩) (.inl (by simp)) (.slice A7 ((d.take k) ++ [x]).length c7)) (fun b hb h => by have := hF7n b hb; rw [List.mem_singleton.1 h] at this; omega)
        have hBf := B7.set10 (u := .slice A7 ((d.take k) ++ [x]).length c7)
        have hl1 : ((d.take k) ++ [x]).length = k + 1 := by simp; omega
        rw [hl1, ← Ht.out] at hSf
        rw [hl1] at hBf hCa
        have HH := Lib.hid (And.intro hSf (And.intro hBf (And.intro hCa hF7n)))
        have HN7 := Lib.hid hN7
        have HL1 := Lib.hid hl1
        clear hCa hF7n hSf hBf hS7 hC7 hN7 hF7 B7 hl1
        go_wp2
        exact ⟨⟨k + 1, A7, c7, F7, by go_num, by omega, HH.out.2.1, HH.out.1, HN7, Lib.hid HH.out.2.2.2, HH.out.2.2.1⟩, by simp [intOf]; omega⟩
    · obtain rfl : k = d.length := by omega
      rw [List.take_of_length_le (Nat.le_refl _)] at hS
      have R2 := R1.chg hC (by simpa using hrx)
      obtain ⟨m0, n0, g0⟩ := bx1 R2
      obtain ⟨lx, x0, fx⟩ := bx1 hB
      have hXw : bX < wr.heap.size := hB.1
      go_wp2
      refine bodyPost_ret (v := .agg #[.slice A' d.length c']) (by simp [results, Try.results18, go_sem, *]) rfl ⟨_, F, rfl, (by refine x'z ?_; repeat (with_reducible (first | exact x'a _ _ | exact x'b _ | exact x'c (by assumption) | refine x'd ?_ (by assumption) | refine x'e ?_ _ | refine x'f ?_ _ | refine x'g ?_ | refine x'h ?_ ?_ _ | refine x'i ?_ _ | refine x'j ?_ | refine x'k ?_ _ | refine x'l ?_ _ _ | refine x'm ?_ | assumption | (refine x'n ?_; omega) | omega))), OD.chg (E := sDb) (G := [w.heap.size + 1]) ⟨_, rfl, hS⟩ (by repeat (with_reducible (first | exact Chg.refl _ _ | refine Chg.trans0 ?_ (by assumption) | refine Chg.extS ?_ _ | refine Chg.alloc ?_ _ | refine Chg.drew ?_ | refine Chg.setCell ?_ (.inl (by simp)) _))) ?_, HN.out, ?_⟩
      · intro b hb h
        have := HF.out b hb
        have := hsz.out
        simp at h
        omega
      · intro b hb
        have := HF.out b hb
        have := hsz.out
        omega
end Go.Proofs.Ytgnmpjjlclbieaa
