/- Contracts of functions that the statements reach, joined from several texts: DbCopy, DbLook, QFor, QOkPl, Walk8, AtomPl. -/
import Derived.Test.YtfigcfajkilhiaaE05
import Derived.Test.YtfigcfajkilhiaaE04
import Derived.Test.YtfigcfajkilhiaaE03
import Derived.Deep.RegionLaw
import Derived.Deep.DrawnRows
import Derived.Deep.DeepCutAuto
/- Databases copied, tables looked up: the program's way and the reference's. -/
namespace Go.Proofs.Ytfigcfajkilhiaa
open Go.RowKit

/-- a database made, with what it holds newer than the call -/
def DbOut (d : Dbd) (w : World) (e : Ending) (w' : World) : Prop := ∃ v F, e = .returned (.agg #[v]) ∧ (∃ y, w' = ext w y) ∧ sDb w' [v] d F ∧ F.Nodup ∧ ∀ b ∈ F, w.heap.size ≤ b
set_option maxRecDepth 100000 in
set_option maxHeartbeats 16000000 in
theorem copyDatabase_any {A : Option Addr} {c : Nat} {d : Dbd} {w : World} (hd : WDb d) (h1 : RV 3 vTb w A d) :
    Calls Try.prog 92 #[.agg #[.slice A d.length c]] w (DbOut d w) := by
  have HD := Lib.hid hd
  have hn := hd.n
  clear hd
  go_enter Try.func92, Try.ntmps92
  go_upto_region 1 with fail
  refine wp_name ?_
  intro w0 hw0
  have hx0 : ∃ y, w0 = ext w y := by rw [hw0.out]; exact (by refine x'z ?_; repeat (with_reducible (first | exact x'a _ _ | exact x'b _ | exact x'c (by assumption) | refine x'd ?_ (by assumption) | refine x'e ?_ _ | refine x'f ?_ _ | refine x'g ?_ | refine x'h ?_ ?_ _ | refine x'i ?_ _ | refine x'j ?_ | refine x'k ?_ _ | refine x'l ?_ _ _ | refine x'm ?_ | assumption | (refine x'n ?_; omega) | omega)))
  have P0 : BoxAt w0 w.heap.size #[.slice A d.length c] := by rw [hw0.out]; exact (by repeat (with_reducible (first | assumption | exact BoxAt.new _ _ _ | apply BoxAt.set10 | apply BoxAt.set2 | refine BoxAt.set2' ?_ (by omega) | apply BoxAt.setP0 | apply BoxAt.setP1 | refine BoxAt.setO ?_ (by omega) | refine BoxAt.alloc ?_ _ | refine BoxAt.drew ?_ | refine BoxAt.toExt ?_ (by assumption))))
  have R0 : BoxAt w0 (w.heap.size + 1) #[.slice none 0 0] := by
    rw [hw0.out]
    simpa using BoxAt.new (w.alloc (.cells #[.slice A d.length c] 29)) #[.slice none 0 0] 29
  obtain ⟨l0, k0, f0⟩ := bx1 P0
  obtain ⟨m0, n0, g0⟩ := bx1 R0
  clear hw0
  go_upto_region 2 with fail
  refine wp_name ?_
  intro W hW
  have xW : ∃ y, W = ext w0 y := by rw [hW.out]; exact (by refine x'z ?_; repeat (with_reducible (first | exact x'a _ _ | exact x'b _ | exact x'c (by assumption) | refine x'd ?_ (by assumption) | refine x'e ?_ _ | refine x'f ?_ _ | refine x'g ?_ | refine x'h ?_ ?_ _ | refine x'i ?_ _ | refine x'j ?_ | refine x'k ?_ _ | refine x'l ?_ _ _ | refine x'm ?_ | assumption | (refine x'n ?_; omega) | omega)))
  have X0 : BoxAt W w0.heap.size #[.slice none 0 0] := by rw [hW.out]; exact (by repeat (with_reducible (first | assumption | exact BoxAt.new _ _ _ | apply BoxAt.set10 | apply BoxAt.set2 | refine BoxAt.set2' ?_ (by omega) | apply BoxAt.setP0 | apply BoxAt.setP1 | refine BoxAt.setO ?_ (by omega) | refine BoxAt.alloc ?_ _ | refine BoxAt.drew ?_ | refine BoxAt.toExt ?_ (by assumption))))
  have P1 := P0.toExt xW
  have R1 := R0.toExt xW
  have hxw := trans_ext hx0 xW
  have hpx : w.heap.size ≠ w0.heap.size := by omega
  have hrx : w.heap.size + 1 ≠ w0.heap.size := by omega
  have hw0s : w.heap.size < w0.heap.size := l0
  obtain ⟨bX, qX⟩ : ∃ b, w0.heap.size = b := ⟨_, rfl⟩
  rw [qX] at X0 hpx hrx hw0s ⊢
  have hXw : bX < W.heap.size := X0.1
  have hsz := Lib.hid (size_of_ext hxw)
  clear hW qX P0 R0 l0 k0 f0 m0 n0 g0
  obtain ⟨lp1, p1, fp1⟩ := bx1 P1
  go_wp2_with fail
  clear lp1 p1 fp1
  go_loopw [9] (fun i wr => ∃ (k : Nat) (A' : Option Addr) (c' : Nat) (F : List Nat), i = .int .i64 k ∧ k ≤ d.length ∧ BoxAt wr bX #[.slice A' k c'] ∧ SV 108 3 sTb wr (.slice A' k c') (d.take k) F ∧ Hid F.Nodup ∧ Hid (∀ b ∈ F, W.heap.size ≤ b) ∧ Chg [bX] W wr) (fun i _ => d.length - (intOf i).toNat)
  case atStart => exact ⟨0, none, 0, [], rfl, by omega, X0, SV.nil, Lib.hid (by simp), Lib.hid (by simp), Chg.refl _ _⟩
  case round =>
    obtain ⟨k, A', c', F, rfl, hk, hB, hS, HN, HF, hC⟩ := hrel
    have hw : ∃ y, wr = ext w y := hC.isExt hxw (by simpa using Nat.le_of_lt hw0s)
    by_cases hlt : k < d.length
    · obtain ⟨b, o, A1, c1, rfl, hb, hc, hc1, hc2, hvx⟩ := (h1.toExt hw).atT hlt
      have lx2 := HD.out.rn _ (List.getElem_mem hlt)
      have HXL := Lib.hid (HD.out.rl _ (List.getElem_mem hlt))
      have Ht := Lib.hid (show d.take (k + 1) = d.take k ++ [d[k]] from List.take_succ_eq_append_getElem hlt)
      have hlk : (d.take k).length + 1 ≤ 2000000000 := by simp; omega
      have HL := Lib.hid (show (d.take k).length = k by simp; omega)
      have hSlt := Lib.hid hS.lt
      have HS := Lib.hid hS
      have hsC := hC.size
      have HP := Lib.hid (P1.chg hC (by simpa using hpx))
      have HV := Lib.hid (vII_get (vRel_get hvx).2).2
      obtain ⟨x, hx1⟩ : ∃ x, d[k] = x := ⟨_, rfl⟩
      rw [hx1] at hc hc1 hc2 lx2 HXL Ht HV
      have HB := Lib.hid hB
      have HC := Lib.hid hC
      have hbX : bX < wr.heap.size := hB.1
      have hXF : bX ∉ F := fun h => by have := HF.out bX h; omega
      clear hx1 hvx
      clear hC hB hS
      go_upto_region 5 with fail
      refine wp_name ?_
      intro W2 hW2
      have xW2 : ∃ y, W2 = ext wr y := by rw [hW2.out]; exact (by refine x'z ?_; repeat (with_reducible (first | exact x'a _ _ | exact x'b _ | exact x'c (by assumption) | refine x'd ?_ (by assumption) | refine x'e ?_ _ | refine x'f ?_ _ | refine x'g ?_ | refine x'h ?_ ?_ _ | refine x'i ?_ _ | refine x'j ?_ | refine x'k ?_ _ | refine x'l ?_ _ _ | refine x'm ?_ | assumption | (refine x'n ?_; omega) | omega)))
      have T2 : BoxAt W2 wr.heap.size #[.string x.1, .int .i64 x.2.1, .slice A1 x.2.2.length c1] := by rw [hW2.out]; exact (by repeat (with_reducible (first | assumption | exact BoxAt.new _ _ _ | apply BoxAt.set3 | refine BoxAt.set3' ?_ (by omega) | apply BoxAt.set30 | apply BoxAt.set31 | apply BoxAt.set32 | apply BoxAt.set2 | refine BoxAt.set2' ?_ (by omega) | apply BoxAt.setP0 | apply BoxAt.setP1 | refine BoxAt.setO ?_ (by omega) | refine BoxAt.alloc ?_ _ | refine BoxAt.drew ?_ | refine BoxAt.toExt ?_ (by assumption))))
      have HB2 := Lib.hid (HB.out.toExt xW2)
      have HS2 := Lib.hid (HS.out.toExt xW2)
      have HV2 := Lib.hid (HV.out.toExt xW2)
      have HT2 := Lib.hid T2
      have hz2 := size_of_ext xW2
      have HFl : Hid (∀ b ∈ F, b < W2.drew.heap.size) := Lib.hid (fun b hb => Nat.lt_of_lt_of_le (hSlt.out b hb) (by simpa using hz2))
      obtain ⟨l2, a2, a3, a4, f2⟩ := box3 T2
      obtain ⟨lb2, b2, fb2⟩ := bx1 HB2.out
      clear hW2 hc hc1 hc2 T2
      go_region_law (first
        | (refine step_appB (E := sTb) (d := x) (G := F9) (cs := #[.string x.1, .int .i64 x.2.1, .slice A9 x.2.2.length c9]) (by rfl) _ _ _ (by rfl) tTb (by rfl) (by rfl) (by exact BoxAt.new _ _ _) (sTb_mk (OD.toExt hS9 (alloc_ext _ _))) (by rfl) (by simp [Value.oneCell']) (SA9.toExt (alloc_ext _ _)) hNN (by rw [HL.out]; omega) (by omega) ?_; intro v7 w7 F7 hS7 hC7 hN7 hF7; obtain ⟨A7, c7, rfl, _, _⟩ := hS7.form; have B7 := (B9.alloc (.cells #[.string x.1, .int .i64 x.2.1, .slice A9 x.2.2.length c9] 108)).chg hC7 hXF; obtain ⟨l7, k7, f7⟩ := bx1 B7)
        | (rw [if_pos (by simp [Region.wanted])]; go_wp2_with (go_at_call 93; refine (copyRelation_any lx2 HXL.out (HV2.out.toExt (by refine x'z ?_; repeat (with_reducible (first | exact x'a _ _ | exact x'b _ | exact x'c (by assumption) | refine x'd ?_ (by assumption) | refine x'e ?_ _ | refine x'f ?_ _ | refine x'g ?_ | refine x'h ?_ ?_ _ | refine x'i ?_ _ | refine x'j ?_ | refine x'k ?_ _ | refine x'l ?_ _ _ | refine x'm ?_ | assumption | (refine x'n ?_; omega) | omega))))).mono ?_; rintro e w9 ⟨u9, v9, F9, rfl, hx9, hS9, hN9, hF9⟩; obtain ⟨A9, c9, rfl, rfl, _⟩ := sRel_form hS9; have B9 := HB2.out.drew.toExt hx9; obtain ⟨l9, k9, f9⟩ := bx1 B9; obtain ⟨lt9, t90, t91, t92, ft9⟩ := box3 (HT2.out.drew.toExt hx9); have SA9 := (HS2.out.toExt (drew_ext W2)).toExt hx9; have hz9 := size_of_ext hx9; have hNN := nodup_more HN.out hN9 HFl.out hF9)))
      all_goals
        have hF7n : ∀ b ∈ F7, W.heap.size ≤ b := fun b hb => by
          rcases hF7 b hb with h | h | h
          · exact HF.out b h
          · have := hF9 b h; simp at this; omega
          · rw [World.size_alloc] at h; simp at hz9; omega
        have hCa := ((((((HC.out.trans0 xW2).drew).trans0 hx9).alloc (.cells #[.string x.1, .int .i64 x.2.1, .slice A9 x.2.2.length c9] 108)).trans hC7 (fun x hx => .inr (HF.out x hx)))).setCell (p := ⟨bX, 0, none⟩) (.inl (by simp)) (.slice A7 ((d.take k) ++ [x]).length c7)
        clear SA9 hS9 hF9 B9
        have hSf := hS7.chg ((Chg.refl [bX] w7).setCell (p := ⟨bX, 0, none⟩) (.inl (by simp)) (.slice A7 ((d.take k) ++ [x]).length c7)) (fun b hb h => by have := hF7n b hb; rw [List.mem_singleton.1 h] at this; omega)
        have hBf := B7.set10 (u := .slice A7 ((d.take k) ++ [x]).length c7)
        have hl1 : ((d.take k) ++ [x]).length = k + 1 := by simp; omega
        rw [hl1, ← Ht.out] at hSf
        rw [hl1] at hBf hCa
        have HH := Lib.hid (And.intro hSf (And.intro hBf (And.intro hCa hF7n)))
        have HN7 := Lib.hid hN7
        have HL1 := Lib.hid hl1
        clear hCa hF7n hSf hBf hS7 hC7 hN7 hF7 B7 hl1
        go_wp2
        exact ⟨⟨k + 1, A7, c7, F7, by go_num, by omega, HH.out.2.1, HH.out.1, HN7, Lib.hid HH.out.2.2.2, HH.out.2.2.1⟩, by simp [intOf]; omega⟩
    · obtain rfl : k = d.length := by omega
      rw [List.take_of_length_le (Nat.le_refl _)] at hS
      have R2 := R1.chg hC (by simpa using hrx)
      obtain ⟨m0, n0, g0⟩ := bx1 R2
      obtain ⟨lx, x0, fx⟩ := bx1 hB
      have hXw : bX < wr.heap.size := hB.1
      go_wp2
      refine bodyPost_ret (v := .agg #[.slice A' d.length c']) (by simp [results, Try.results92, go_sem, *]) rfl ⟨_, F, rfl, (by refine x'z ?_; repeat (with_reducible (first | exact x'a _ _ | exact x'b _ | exact x'c (by assumption) | refine x'd ?_ (by assumption) | refine x'e ?_ _ | refine x'f ?_ _ | refine x'g ?_ | refine x'h ?_ ?_ _ | refine x'i ?_ _ | refine x'j ?_ | refine x'k ?_ _ | refine x'l ?_ _ _ | refine x'm ?_ | assumption | (refine x'n ?_; omega) | omega))), OD.chg (E := sDb) (G := [w.heap.size + 1]) ⟨_, rfl, hS⟩ (by repeat (with_reducible (first | exact Chg.refl _ _ | refine Chg.trans0 ?_ (by assumption) | refine Chg.extS ?_ _ | refine Chg.alloc ?_ _ | refine Chg.drew ?_ | refine Chg.setCell ?_ (.inl (by simp)) _))) ?_, HN.out, ?_⟩
      · intro b hb h
        have := HF.out b hb
        have := hsz.out
        simp at h
        omega
      · intro b hb
        have := HF.out b hb
        have := hsz.out
        omega
set_option maxRecDepth 100000 in
set_option maxHeartbeats 16000000 in
theorem l6Copy_any {A : Option Addr} {c : Nat} {d : Dbd} {w : World} (hd : WDb d) (h1 : RV 3 vTb w A d) :
    Calls Try.prog 90 #[.agg #[.slice A d.length c]] w (DbOut d w) := by
  have HD := Lib.hid hd
  have hn := hd.n
  clear hd
  go_enter Try.func90, Try.ntmps90
  go_upto_region 1 with fail
  refine wp_name ?_
  intro w0 hw0
  have hx0 : ∃ y, w0 = ext w y := by rw [hw0.out]; exact (by refine x'z ?_; repeat (with_reducible (first | exact x'a _ _ | exact x'b _ | exact x'c (by assumption) | refine x'd ?_ (by assumption) | refine x'e ?_ _ | refine x'f ?_ _ | refine x'g ?_ | refine x'h ?_ ?_ _ | refine x'i ?_ _ | refine x'j ?_ | refine x'k ?_ _ | refine x'l ?_ _ _ | refine x'm ?_ | assumption | (refine x'n ?_; omega) | omega)))
  have P0 : BoxAt w0 w.heap.size #[.slice A d.length c] := by rw [hw0.out]; exact (by repeat (with_reducible (first | assumption | exact BoxAt.new _ _ _ | apply BoxAt.set10 | apply BoxAt.set2 | refine BoxAt.set2' ?_ (by omega) | apply BoxAt.setP0 | apply BoxAt.setP1 | refine BoxAt.setO ?_ (by omega) | refine BoxAt.alloc ?_ _ | refine BoxAt.drew ?_ | refine BoxAt.toExt ?_ (by assumption))))
  have R0 : BoxAt w0 (w.heap.size + 1) #[.slice none 0 0] := by
    rw [hw0.out]
    simpa using BoxAt.new (w.alloc (.cells #[.slice A d.length c] 29)) #[.slice none 0 0] 29
  obtain ⟨l0, k0, f0⟩ := bx1 P0
  obtain ⟨m0, n0, g0⟩ := bx1 R0
  clear hw0
  go_upto_region 2 with fail
  refine wp_name ?_
  intro W hW
  have xW : ∃ y, W = ext w0 y := by rw [hW.out]; exact (by refine x'z ?_; repeat (with_reducible (first | exact x'a _ _ | exact x'b _ | exact x'c (by assumption) | refine x'd ?_ (by assumption) | refine x'e ?_ _ | refine x'f ?_ _ | refine x'g ?_ | refine x'h ?_ ?_ _ | refine x'i ?_ _ | refine x'j ?_ | refine x'k ?_ _ | refine x'l ?_ _ _ | refine x'm ?_ | assumption | (refine x'n ?_; omega) | omega)))
  have X0 : BoxAt W w0.heap.size #[.slice none 0 0] := by rw [hW.out]; exact (by repeat (with_reducible (first | assumption | exact BoxAt.new _ _ _ | apply BoxAt.set10 | apply BoxAt.set2 | refine BoxAt.set2' ?_ (by omega) | apply BoxAt.setP0 | apply BoxAt.setP1 | refine BoxAt.setO ?_ (by omega) | refine BoxAt.alloc ?_ _ | refine BoxAt.drew ?_ | refine BoxAt.toExt ?_ (by assumption))))
  have P1 := P0.toExt xW
  have R1 := R0.toExt xW
  have hxw := trans_ext hx0 xW
  have hpx : w.heap.size ≠ w0.heap.size := by omega
  have hrx : w.heap.size + 1 ≠ w0.heap.size := by omega
  have hw0s : w.heap.size < w0.heap.size := l0
  obtain ⟨bX, qX⟩ : ∃ b, w0.heap.size = b := ⟨_, rfl⟩
  rw [qX] at X0 hpx hrx hw0s ⊢
  have hXw : bX < W.heap.size := X0.1
  have hsz := Lib.hid (size_of_ext hxw)
  clear hW qX P0 R0 l0 k0 f0 m0 n0 g0
  obtain ⟨lp1, p1, fp1⟩ := bx1 P1
  go_wp2_with fail
  clear lp1 p1 fp1
  go_loopw [4] (fun i wr => ∃ (k : Nat) (A' : Option Addr) (c' : Nat) (F : List Nat), i = .int .i64 k ∧ k ≤ d.length ∧ BoxAt wr bX #[.slice A' k c'] ∧ SV 108 3 sTb wr (.slice A' k c') (d.take k) F ∧ Hid F.Nodup ∧ Hid (∀ b ∈ F, W.heap.size ≤ b) ∧ Chg [bX] W wr) (fun i _ => d.length - (intOf i).toNat)
  case atStart => exact ⟨0, none, 0, [], rfl, by omega, X0, SV.nil, Lib.hid (by simp), Lib.hid (by simp), Chg.refl _ _⟩
  case round =>
    obtain ⟨k, A', c', F, rfl, hk, hB, hS, HN, HF, hC⟩ := hrel
    have hw : ∃ y, wr = ext w y := hC.isExt hxw (by simpa using Nat.le_of_lt hw0s)
    obtain ⟨lp, p0, fp⟩ := bx1 (P1.chg hC (by simpa using hpx))
    by_cases hlt : k < d.length
    · obtain ⟨b, o, A1, c1, rfl, hb, hc, hc1, hc2, hvx⟩ := (h1.toExt hw).atT hlt
      have lx2 := HD.out.rn _ (List.getElem_mem hlt)
      have HXL := Lib.hid (HD.out.rl _ (List.getElem_mem hlt))
      have Ht := Lib.hid (show d.take (k + 1) = d.take k ++ [d[k]] from List.take_succ_eq_append_getElem hlt)
      have hlk : (d.take k).length + 1 ≤ 2000000000 := by simp; omega
      have HL := Lib.hid (show (d.take k).length = k by simp; omega)
      have hSlt := Lib.hid hS.lt
      have HS := Lib.hid hS
      have hsC := hC.size
      have HP := Lib.hid (P1.chg hC (by simpa using hpx))
      have HV := Lib.hid (vII_get (vRel_get hvx).2).2
      obtain ⟨x, hx1⟩ : ∃ x, d[k] = x := ⟨_, rfl⟩
      rw [hx1] at hc hc1 hc2 lx2 HXL Ht HV
      have HB := Lib.hid hB
      have HC := Lib.hid hC
      have hbX : bX < wr.heap.size := hB.1
      have hXF : bX ∉ F := fun h => by have := HF.out bX h; omega
      clear hx1 hvx
      clear hC hB hS
      go_upto_region 6 with (go_at_call 152; refine (l5Copy_any lx2 HXL.out HV.out).mono ?_; rintro e w2 ⟨u2, v2, F9, rfl, hx2, hS2, hN9, hF9⟩; obtain ⟨A9, c9, rfl, rfl, _⟩ := sRel_form hS2)
      refine wp_name ?_
      intro W2 hW2
      have x22 : ∃ y, W2 = ext w2 y := by rw [hW2.out]; exact (by refine x'z ?_; repeat (with_reducible (first | exact x'a _ _ | exact x'b _ | exact x'c (by assumption) | refine x'd ?_ (by assumption) | refine x'e ?_ _ | refine x'f ?_ _ | refine x'g ?_ | refine x'h ?_ ?_ _ | refine x'i ?_ _ | refine x'j ?_ | refine x'k ?_ _ | refine x'l ?_ _ _ | refine x'm ?_ | assumption | (refine x'n ?_; omega) | omega)))
      have T2 : BoxAt W2 w2.heap.size #[.int .i64 x.2.1, .slice A9 x.2.2.length c9] := by rw [hW2.out]; exact (by repeat (with_reducible (first | assumption | exact BoxAt.new _ _ _ | apply BoxAt.set2 | refine BoxAt.set2' ?_ (by omega) | apply BoxAt.setP0 | apply BoxAt.setP1 | refine BoxAt.setO ?_ (by omega) | refine BoxAt.alloc ?_ _ | refine BoxAt.drew ?_ | refine BoxAt.toExt ?_ (by assumption))))
      have xW2 := trans_ext hx2 x22
      have hS9 : sRel W2 [.int .i64 x.2.1, .slice A9 x.2.2.length c9] x.2 F9 := OD.toExt hS2 x22
      have HB2 := Lib.hid (HB.out.toExt xW2)
      have HS2 := Lib.hid (HS.out.toExt xW2)
      have HP2 := Lib.hid (HP.out.toExt xW2)
      have HS9 := Lib.hid hS9
      have hz2 := size_of_ext hx2
      have hz22 := size_of_ext x22
      have hNN := nodup_more HN.out hN9 hSlt.out hF9
      have HNN := Lib.hid hNN
      have hcx := cellW xW2 hb hc
      have hbx := ltW xW2 hb
      obtain ⟨l2, a2, a3, f2⟩ := bx2 T2
      obtain ⟨lb2, b2, fb2⟩ := bx1 HB2.out
      obtain ⟨lp2, p2, fp2⟩ := bx1 HP2.out
      clear hW2 hc hc1 hc2 T2 hNN hS2 hS9
      go_region_law (first
        | (refine step_appB (E := sTb) (d := x) (G := F9) (cs := #[.string x.1, .int .i64 x.2.1, .slice A9 x.2.2.length c9]) (by rfl) _ _ _ (by rfl) tTb (by rfl) (by rfl) (by exact BoxAt.new _ _ _) (sTb_mk (OD.toExt HS9.out (by refine x'z ?_; repeat (with_reducible (first | exact x'a _ _ | exact x'b _ | exact x'c (by assumption) | refine x'd ?_ (by assumption) | refine x'e ?_ _ | refine x'f ?_ _ | refine x'g ?_ | refine x'h ?_ ?_ _ | refine x'i ?_ _ | refine x'j ?_ | refine x'k ?_ _ | refine x'l ?_ _ _ | refine x'm ?_ | assumption | (refine x'n ?_; omega) | omega))))) (by rfl) (by simp [Value.oneCell']) (HS2.out.toExt (by refine x'z ?_; repeat (with_reducible (first | exact x'a _ _ | exact x'b _ | exact x'c (by assumption) | refine x'd ?_ (by assumption) | refine x'e ?_ _ | refine x'f ?_ _ | refine x'g ?_ | refine x'h ?_ ?_ _ | refine x'i ?_ _ | refine x'j ?_ | refine x'k ?_ _ | refine x'l ?_ _ _ | refine x'm ?_ | assumption | (refine x'n ?_; omega) | omega)))) HNN.out (by rw [HL.out]; omega) (by omega) ?_; intro v7 w7 F7 hS7 hC7 hN7 hF7; obtain ⟨A7, c7, rfl, _, _⟩ := hS7.form; have B7 := ((HB2.out.drew).alloc (.cells #[.string x.1, .int .i64 x.2.1, .slice A9 x.2.2.length c9] 108)).chg hC7 hXF; obtain ⟨l7, k7, f7⟩ := bx1 B7))
      all_goals
        have hF7n : ∀ b ∈ F7, W.heap.size ≤ b := fun b hb => by
          rcases hF7 b hb with h | h | h
          · exact HF.out b h
          · have := hF9 b h; omega
          · simp at h; omega
        have hCa := (((((HC.out.trans0 xW2).drew).alloc (.cells #[.string x.1, .int .i64 x.2.1, .slice A9 x.2.2.length c9] 108)).trans hC7 (fun x hx => .inr (HF.out x hx)))).setCell (p := ⟨bX, 0, none⟩) (.inl (by simp)) (.slice A7 ((d.take k) ++ [x]).length c7)
        clear hF9
        have hSf := hS7.chg ((Chg.refl [bX] w7).setCell (p := ⟨bX, 0, none⟩) (.inl (by simp)) (.slice A7 ((d.take k) ++ [x]).length c7)) (fun b hb h => by have := hF7n b hb; rw [List.mem_singleton.1 h] at this; omega)
        have hBf := B7.set10 (u := .slice A7 ((d.take k) ++ [x]).length c7)
        have hl1 : ((d.take k) ++ [x]).length = k + 1 := by simp; omega
        rw [hl1, ← Ht.out] at hSf
        rw [hl1] at hBf hCa
        have HH := Lib.hid (And.intro hSf (And.intro hBf (And.intro hCa hF7n)))
        have HN7 := Lib.hid hN7
        have HL1 := Lib.hid hl1
        clear hCa hF7n hSf hBf hS7 hC7 hN7 hF7 B7 hl1
        go_wp2
        exact ⟨⟨k + 1, A7, c7, F7, by go_num, by omega, HH.out.2.1, HH.out.1, HN7, Lib.hid HH.out.2.2.2, HH.out.2.2.1⟩, by simp [intOf]; omega⟩
    · obtain rfl : k = d.length := by omega
      rw [List.take_of_length_le (Nat.le_refl _)] at hS
      have R2 := R1.chg hC (by simpa using hrx)
      obtain ⟨m0, n0, g0⟩ := bx1 R2
      obtain ⟨lx, x0, fx⟩ := bx1 hB
      have hXw : bX < wr.heap.size := hB.1
      go_wp2
      refine bodyPost_ret (v := .agg #[.slice A' d.length c']) (by simp [results, Try.results90, go_sem, *]) rfl ⟨_, F, rfl, (by refine x'z ?_; repeat (with_reducible (first | exact x'a _ _ | exact x'b _ | exact x'c (by assumption) | refine x'd ?_ (by assumption) | refine x'e ?_ _ | refine x'f ?_ _ | refine x'g ?_ | refine x'h ?_ ?_ _ | refine x'i ?_ _ | refine x'j ?_ | refine x'k ?_ _ | refine x'l ?_ _ _ | refine x'm ?_ | assumption | (refine x'n ?_; omega) | omega))), OD.chg (E := sDb) (G := [w.heap.size + 1]) ⟨_, rfl, hS⟩ (by repeat (with_reducible (first | exact Chg.refl _ _ | refine Chg.trans0 ?_ (by assumption) | refine Chg.extS ?_ _ | refine Chg.alloc ?_ _ | refine Chg.drew ?_ | refine Chg.setCell ?_ (.inl (by simp)) _))) ?_, HN.out, ?_⟩
      · intro b hb h
        have := HF.out b hb
        have := hsz.out
        simp at h
        omega
      · intro b hb
        have := HF.out b hb
        have := hsz.out
        omega
end Go.Proofs.Ytfigcfajkilhiaa

/- Tables looked up in databases: the program's way and the reference's. -/
namespace Go.Proofs.Ytfigcfajkilhiaa
open Go.RowKit

set_option maxRecDepth 100000 in
set_option maxHeartbeats 16000000 in
theorem LookupRelation_any {A : Option Addr} {c : Nat} {d : Dbd} {name : ByteArray} {w : World} (hd : WDb d) (h1 : RV 3 vTb w A d) :
    Calls Try.prog 147 #[.agg #[.slice A d.length c], .string name] w (RelOut (lookD d name) w) := by
  have HD := Lib.hid hd
  have hn := hd.n
  obtain ⟨t, ht⟩ : ∃ t, dbB d = t := ⟨_, rfl⟩
  have HT := Lib.hid ht
  clear hd ht
  go_enter Try.func147, Try.ntmps147
  go_upto_region 1 with fail
  refine wp_name ?_
  intro W hW
  have xW : ∃ y, W = ext w y := by rw [hW.out]; exact (by refine x'z ?_; repeat (with_reducible (first | exact x'a _ _ | exact x'b _ | exact x'c (by assumption) | refine x'd ?_ (by assumption) | refine x'e ?_ _ | refine x'f ?_ _ | refine x'g ?_ | refine x'h ?_ ?_ _ | refine x'i ?_ _ | refine x'j ?_ | refine x'k ?_ _ | refine x'l ?_ _ _ | refine x'm ?_ | assumption | (refine x'n ?_; omega) | omega)))
  have PW : BoxAt W w.heap.size #[.slice A d.length c] := by rw [hW.out]; exact (by repeat (with_reducible (first | assumption | exact BoxAt.new _ _ _ | apply BoxAt.set10 | apply BoxAt.set2 | refine BoxAt.set2' ?_ (by omega) | apply BoxAt.setP0 | apply BoxAt.setP1 | refine BoxAt.setO ?_ (by omega) | refine BoxAt.alloc ?_ _ | refine BoxAt.drew ?_ | refine BoxAt.toExt ?_ (by assumption))))
  have RW : BoxAt W (w.heap.size + 1) #[.int .i64 0, .slice none 0 0] := by
    rw [hW.out]
    simpa using BoxAt.new (w.alloc (.cells #[.slice A d.length c] 29)) #[.int .i64 0, .slice none 0 0] 39
  obtain ⟨lp, p0, fp⟩ := bx1 PW
  clear hW
  cases t with
  | false =>
    have HZ := Lib.hid (show lookD d name = none by unfold lookD; rw [HT.out]; rfl)
    go_wp2_with (go_at_call 63; refine (IsValidDatabase_w HD.out (h1.toExt xW)).mono ?_; rintro e w1 ⟨rfl, hx1⟩; rw [HT.out]; obtain ⟨lr1, r10, r11, fr1⟩ := bx2 (RW.toExt hx1))
    refine bodyPost_ret (v := .tuple #[.agg #[.int .i64 0, .slice none 0 0], .bool false]) (by simp [results, Try.results147, go_sem, *]) rfl (relOut_none HZ.out rfl (by refine x'z ?_; repeat (with_reducible (first | exact x'a _ _ | exact x'b _ | exact x'c (by assumption) | refine x'd ?_ (by assumption) | refine x'e ?_ _ | refine x'f ?_ _ | refine x'g ?_ | refine x'h ?_ ?_ _ | refine x'i ?_ _ | refine x'j ?_ | refine x'k ?_ _ | refine x'l ?_ _ _ | refine x'm ?_ | assumption | (refine x'n ?_; omega) | omega))))
  | true =>
    have HL := Lib.hid (show lookD d name = fndD name d by unfold lookD; rw [HT.out]; rfl)
    go_upto_region 2 with (go_at_call 63; refine (IsValidDatabase_w HD.out (h1.toExt xW)).mono ?_; rintro e w1 ⟨rfl, hx1⟩; rw [HT.out])
    have P1 := PW.toExt hx1
    have R1 := RW.toExt hx1
    have xw1 := trans_ext xW hx1
    obtain ⟨lp1, p10, fp1⟩ := bx1 P1
    clear lp p0 fp PW RW
    go_wp2_with fail
    clear lp1 p10 fp1
    go_loopw [13] (fun i wr => ∃ k : Nat, i = .int .i64 k ∧ k ≤ d.length ∧ (∃ y, wr = ext w1 y) ∧ Hid (fndD name (d.drop k) = fndD name d)) (fun i _ => d.length - (intOf i).toNat)
    case atStart => exact ⟨0, rfl, by omega, refl_ext w1, Lib.hid (by simp)⟩
    case round =>
      obtain ⟨k, rfl, hk, hy, Hj⟩ := hrel
      have hyw := trans_ext xw1 hy
      have R2 := R1.toExt hy
      obtain ⟨lr2, r20, r21, fr2⟩ := bx2 R2
      by_cases hlt : k < d.length
      · obtain ⟨b, o, A1, c1, rfl, hb, hc, hc1, hc2, hvx⟩ := (h1.toExt hyw).atT hlt
        have lx2 := HD.out.rn _ (List.getElem_mem hlt)
        have HXL := Lib.hid (HD.out.rl _ (List.getElem_mem hlt))
        have e := Hj.out
        rw [fndD_step hlt] at e
        have HV := Lib.hid (vII_get (vRel_get hvx).2).2
        obtain ⟨x, hx⟩ : ∃ x, d[k] = x := ⟨_, rfl⟩
        rw [hx] at e hc hc1 hc2 lx2 HXL HV
        have hwz := size_of_ext hyw
        clear hx hvx
        by_cases he : x.1 = name
        · have hbb : (x.1.toList == name.toList) = true := by rw [str_beq, decide_eq_true he]
          rw [if_pos he] at e
          have HZ := Lib.hid (show lookD d name = some x.2 by rw [HL.out, ← e])
          clear e he
          go_wp2_with (go_at_call 93; refine (copyRelation_any lx2 HXL.out (HV.out.toExt (by refine x'z ?_; repeat (with_reducible (first | exact x'a _ _ | exact x'b _ | exact x'c (by assumption) | refine x'd ?_ (by assumption) | refine x'e ?_ _ | refine x'f ?_ _ | refine x'g ?_ | refine x'h ?_ ?_ _ | refine x'i ?_ _ | refine x'j ?_ | refine x'k ?_ _ | refine x'l ?_ _ _ | refine x'm ?_ | assumption | (refine x'n ?_; omega) | omega))))).mono ?_; rintro e w9 ⟨u9, v9, F9, rfl, hx9, hS9, hN9, hF9⟩; obtain ⟨A9, c9, rfl, rfl, _⟩ := sRel_form hS9; have R9 : BoxAt w9 (w.heap.size + 1) #[.int .i64 0, .slice none 0 0] := (by repeat (with_reducible (first | assumption | exact BoxAt.new _ _ _ | apply BoxAt.set2 | refine BoxAt.set2' ?_ (by omega) | apply BoxAt.setP0 | apply BoxAt.setP1 | refine BoxAt.setO ?_ (by omega) | refine BoxAt.alloc ?_ _ | refine BoxAt.drew ?_ | refine BoxAt.toExt ?_ (by assumption)))); obtain ⟨lr9, r90, r91, fr9⟩ := bx2 R9)
          refine bodyPost_ret (v := .tuple #[.agg #[.int .i64 x.2.1, .slice A9 x.2.2.length c9], .bool true]) (by simp [results, Try.results147, go_sem, *]) rfl ⟨_, _, F9, by rw [HZ.out]; rfl, (by refine x'z ?_; repeat (with_reducible (first | exact x'a _ _ | exact x'b _ | exact x'c (by assumption) | refine x'd ?_ (by assumption) | refine x'e ?_ _ | refine x'f ?_ _ | refine x'g ?_ | refine x'h ?_ ?_ _ | refine x'i ?_ _ | refine x'j ?_ | refine x'k ?_ _ | refine x'l ?_ _ _ | refine x'm ?_ | assumption | (refine x'n ?_; omega) | omega))), ?_, hN9, ?_⟩
          · rw [HZ.out]
            refine OD.chg (G := [w.heap.size + 1]) hS9 (by repeat (with_reducible (first | exact Chg.refl _ _ | refine Chg.trans0 ?_ (by assumption) | refine Chg.extS ?_ _ | refine Chg.alloc ?_ _ | refine Chg.drew ?_ | refine Chg.setCell ?_ (.inl (by simp)) _))) ?_
            intro b hb h
            have := hF9 b hb
            rw [List.mem_singleton.1 h] at this
            (try simp at this)
            omega
          · intro b hb
            have := hF9 b hb
            (try simp at this)
            omega
        · have hbb : (x.1.toList == name.toList) = false := by rw [str_beq, decide_eq_false he]
          rw [if_neg he] at e
          have HK := Lib.hid e
          clear e he
          go_wp2
          exact ⟨⟨k + 1, by go_num, by omega, (by refine x'z ?_; repeat (with_reducible (first | exact x'a _ _ | exact x'b _ | exact x'c (by assumption) | refine x'd ?_ (by assumption) | refine x'e ?_ _ | refine x'f ?_ _ | refine x'g ?_ | refine x'h ?_ ?_ _ | refine x'i ?_ _ | refine x'j ?_ | refine x'k ?_ _ | refine x'l ?_ _ _ | refine x'm ?_ | assumption | (refine x'n ?_; omega) | omega))), HK⟩, by simp [intOf]; omega⟩
      · have e := Hj.out
        rw [fndD_end hlt] at e
        have HZ := Lib.hid (show lookD d name = none by rw [HL.out, ← e])
        clear e Hj
        go_wp2
        refine bodyPost_ret (v := .tuple #[.agg #[.int .i64 0, .slice none 0 0], .bool false]) (by simp [results, Try.results147, go_sem, *]) rfl (relOut_none HZ.out rfl (by refine x'z ?_; repeat (with_reducible (first | exact x'a _ _ | exact x'b _ | exact x'c (by assumption) | refine x'd ?_ (by assumption) | refine x'e ?_ _ | refine x'f ?_ _ | refine x'g ?_ | refine x'h ?_ ?_ _ | refine x'i ?_ _ | refine x'j ?_ | refine x'k ?_ _ | refine x'l ?_ _ _ | refine x'm ?_ | assumption | (refine x'n ?_; omega) | omega))))
set_option maxRecDepth 100000 in
set_option maxHeartbeats 16000000 in
theorem specLookupRelation_any {A : Option Addr} {c : Nat} {d : Dbd} {name : ByteArray} {w : World} (hd : WDb d) (h1 : RV 3 vTb w A d) :
    Calls Try.prog 71 #[.agg #[.slice A d.length c], .string name] w (RelOut (lookD d name) w) := by
  have HD := Lib.hid hd
  have hn := hd.n
  obtain ⟨t, ht⟩ : ∃ t, dbB d = t := ⟨_, rfl⟩
  have HT := Lib.hid ht
  have HLf := Lib.hid (fun (h : t = false) => show lookD d name = none by unfold lookD; rw [ht, h]; rfl)
  have HLt := Lib.hid (fun (h : t = true) => show lookD d name = fndD name d by unfold lookD; rw [ht, h]; rfl)
  have HLn := Lib.hid (fun (h : fndD name d = none) => show lookD d name = none by unfold lookD; rw [h]; split <;> rfl)
  clear hd ht
  go_enter Try.func71, Try.ntmps71
  go_upto_region 1 with fail
  refine wp_name ?_
  intro W hW
  have xW : ∃ y, W = ext w y := by rw [hW.out]; exact (by refine x'z ?_; repeat (with_reducible (first | exact x'a _ _ | exact x'b _ | exact x'c (by assumption) | refine x'd ?_ (by assumption) | refine x'e ?_ _ | refine x'f ?_ _ | refine x'g ?_ | refine x'h ?_ ?_ _ | refine x'i ?_ _ | refine x'j ?_ | refine x'k ?_ _ | refine x'l ?_ _ _ | refine x'm ?_ | assumption | (refine x'n ?_; omega) | omega)))
  have PW : BoxAt W w.heap.size #[.slice A d.length c] := by rw [hW.out]; exact (by repeat (with_reducible (first | assumption | exact BoxAt.new _ _ _ | apply BoxAt.set10 | apply BoxAt.set2 | refine BoxAt.set2' ?_ (by omega) | apply BoxAt.setP0 | apply BoxAt.setP1 | refine BoxAt.setO ?_ (by omega) | refine BoxAt.alloc ?_ _ | refine BoxAt.drew ?_ | refine BoxAt.toExt ?_ (by assumption))))
  have RW : BoxAt W (w.heap.size + 1) #[.int .i64 0, .slice none 0 0] := by
    rw [hW.out]
    simpa using BoxAt.new (w.alloc (.cells #[.slice A d.length c] 29)) #[.int .i64 0, .slice none 0 0] 39
  clear hW
  go_wp2_with fail
  go_loopw [6] (fun i wr => ∃ k : Nat, i = .int .i64 k ∧ k ≤ d.length ∧ (∃ y, wr = ext W y) ∧ Hid (fndD name (d.drop k) = fndD name d)) (fun i _ => d.length - (intOf i).toNat)
  case atStart => exact ⟨0, rfl, by omega, refl_ext W, Lib.hid (by simp)⟩
  case round =>
    obtain ⟨k, rfl, hk, hy, Hj⟩ := hrel
    have hyw := trans_ext xW hy
    have P2 := PW.toExt hy
    have R2 := RW.toExt hy
    obtain ⟨lp2, p20, fp2⟩ := bx1 P2
    by_cases hlt : k < d.length
    · cases t with
      | false =>
        have HZ := Lib.hid (HLf.out rfl)
        go_wp2_with (go_at_call 60; refine (specIsValidDatabase_w HD.out (h1.toExt hyw)).mono ?_; rintro e w1 ⟨rfl, hx1⟩; rw [HT.out]; obtain ⟨lr1, r10, r11, fr1⟩ := bx2 (R2.toExt hx1))
        refine bodyPost_ret (v := .tuple #[.agg #[.int .i64 0, .slice none 0 0], .bool false]) (by simp [results, Try.results71, go_sem, *]) rfl (relOut_none HZ.out rfl (by refine x'z ?_; repeat (with_reducible (first | exact x'a _ _ | exact x'b _ | exact x'c (by assumption) | refine x'd ?_ (by assumption) | refine x'e ?_ _ | refine x'f ?_ _ | refine x'g ?_ | refine x'h ?_ ?_ _ | refine x'i ?_ _ | refine x'j ?_ | refine x'k ?_ _ | refine x'l ?_ _ _ | refine x'm ?_ | assumption | (refine x'n ?_; omega) | omega))))
      | true =>
        go_upto_region 4 with (go_at_call 60; refine (specIsValidDatabase_w HD.out (h1.toExt hyw)).mono ?_; rintro e w1 ⟨rfl, hx1⟩; rw [HT.out])
        have hy := trans_ext hy hx1
        have hyw := trans_ext xW hy
        obtain ⟨lp3, p30, fp3⟩ := bx1 (P2.toExt hx1)
        have R3 := R2.toExt hx1
        obtain ⟨lr2, r20, r21, fr2⟩ := bx2 R3
        clear lp2 p20 fp2
        obtain ⟨b, o, A1, c1, rfl, hb, hc, hc1, hc2, hvx⟩ := (h1.toExt hyw).atT hlt
        have lx2 := HD.out.rn _ (List.getElem_mem hlt)
        have HXL := Lib.hid (HD.out.rl _ (List.getElem_mem hlt))
        have e := Hj.out
        rw [fndD_step hlt] at e
        have HV := Lib.hid (vII_get (vRel_get hvx).2).2
        obtain ⟨x, hx⟩ : ∃ x, d[k] = x := ⟨_, rfl⟩
        rw [hx] at e hc hc1 hc2 lx2 HXL HV
        have hwz := size_of_ext hyw
        clear hx hvx
        by_cases he : x.1 = name
        · have hbb : (x.1.toList == name.toList) = true := by rw [str_beq, decide_eq_true he]
          rw [if_pos he] at e
          have HZ := Lib.hid (show lookD d name = some x.2 by rw [HLt.out (by trivial), ← e])
          clear e he
          go_wp2_with (go_at_call 152; refine (l5Copy_any lx2 HXL.out (HV.out.toExt (by refine x'z ?_; repeat (with_reducible (first | exact x'a _ _ | exact x'b _ | exact x'c (by assumption) | refine x'd ?_ (by assumption) | refine x'e ?_ _ | refine x'f ?_ _ | refine x'g ?_ | refine x'h ?_ ?_ _ | refine x'i ?_ _ | refine x'j ?_ | refine x'k ?_ _ | refine x'l ?_ _ _ | refine x'm ?_ | assumption | (refine x'n ?_; omega) | omega))))).mono ?_; rintro e w9 ⟨u9, v9, F9, rfl, hx9, hS9, hN9, hF9⟩; obtain ⟨A9, c9, rfl, rfl, _⟩ := sRel_form hS9; have R9 : BoxAt w9 (w.heap.size + 1) #[.int .i64 0, .slice none 0 0] := (by repeat (with_reducible (first | assumption | exact BoxAt.new _ _ _ | apply BoxAt.set2 | refine BoxAt.set2' ?_ (by omega) | apply BoxAt.setP0 | apply BoxAt.setP1 | refine BoxAt.setO ?_ (by omega) | refine BoxAt.alloc ?_ _ | refine BoxAt.drew ?_ | refine BoxAt.toExt ?_ (by assumption)))); obtain ⟨lr9, r90, r91, fr9⟩ := bx2 R9)
          refine bodyPost_ret (v := .tuple #[.agg #[.int .i64 x.2.1, .slice A9 x.2.2.length c9], .bool true]) (by simp [results, Try.results71, go_sem, *]) rfl ⟨_, _, F9, by rw [HZ.out]; rfl, (by refine x'z ?_; repeat (with_reducible (first | exact x'a _ _ | exact x'b _ | exact x'c (by assumption) | refine x'd ?_ (by assumption) | refine x'e ?_ _ | refine x'f ?_ _ | refine x'g ?_ | refine x'h ?_ ?_ _ | refine x'i ?_ _ | refine x'j ?_ | refine x'k ?_ _ | refine x'l ?_ _ _ | refine x'm ?_ | assumption | (refine x'n ?_; omega) | omega))), ?_, hN9, ?_⟩
          · rw [HZ.out]
            refine OD.chg (G := [w.heap.size + 1]) hS9 (by repeat (with_reducible (first | exact Chg.refl _ _ | refine Chg.trans0 ?_ (by assumption) | refine Chg.extS ?_ _ | refine Chg.alloc ?_ _ | refine Chg.drew ?_ | refine Chg.setCell ?_ (.inl (by simp)) _))) ?_
            intro b hb h
            have := hF9 b hb
            rw [List.mem_singleton.1 h] at this
            (try simp at this)
            omega
          · intro b hb
            have := hF9 b hb
            (try simp at this)
            omega
        · have hbb : (x.1.toList == name.toList) = false := by rw [str_beq, decide_eq_false he]
          rw [if_neg he] at e
          have HK := Lib.hid e
          clear e he
          go_wp2
          exact ⟨⟨k + 1, by go_num, by omega, (by refine x'z ?_; repeat (with_reducible (first | exact x'a _ _ | exact x'b _ | exact x'c (by assumption) | refine x'd ?_ (by assumption) | refine x'e ?_ _ | refine x'f ?_ _ | refine x'g ?_ | refine x'h ?_ ?_ _ | refine x'i ?_ _ | refine x'j ?_ | refine x'k ?_ _ | refine x'l ?_ _ _ | refine x'm ?_ | assumption | (refine x'n ?_; omega) | omega))), HK⟩, by simp [intOf]; omega⟩
    · have e := Hj.out
      rw [fndD_end hlt] at e
      have HZ := Lib.hid (HLn.out e.symm)
      obtain ⟨lr2, r20, r21, fr2⟩ := bx2 R2
      clear e Hj
      go_wp2
      refine bodyPost_ret (v := .tuple #[.agg #[.int .i64 0, .slice none 0 0], .bool false]) (by simp [results, Try.results71, go_sem, *]) rfl (relOut_none HZ.out rfl (by refine x'z ?_; repeat (with_reducible (first | exact x'a _ _ | exact x'b _ | exact x'c (by assumption) | refine x'd ?_ (by assumption) | refine x'e ?_ _ | refine x'f ?_ _ | refine x'g ?_ | refine x'h ?_ ?_ _ | refine x'i ?_ _ | refine x'j ?_ | refine x'k ?_ _ | refine x'l ?_ _ _ | refine x'm ?_ | assumption | (refine x'n ?_; omega) | omega))))
end Go.Proofs.Ytfigcfajkilhiaa

/- Queries that fit a database: the program's way and the reference's. -/
namespace Go.Proofs.Ytfigcfajkilhiaa
open Go.RowKit

def fitO (o : Option Rd) (n : Nat) : Bool := match o with | some r => decide (r.1 = (n : Int)) | none => false
theorem atFit_look {d : Dbd} {a : At} {o : Option Rd} (h : lookD d a.1 = o) : atFit d a = fitO o a.2.length := by
  subst h
  rfl
theorem fitL_step {d : Dbd} {l : List At} {k : Nat} (h : k < l.length) : (l.drop k).all (atFit d) = (atFit d l[k] && (l.drop (k + 1)).all (atFit d)) := by
  rw [List.drop_eq_getElem_cons h, List.all_cons]
theorem fitL_end {d : Dbd} {l : List At} {k : Nat} (h : ¬ k < l.length) : (l.drop k).all (atFit d) = true := by
  rw [List.drop_eq_nil_of_le (by omega)]; rfl
/-- what is known where a relation was looked up into a fresh box -/
def CutR (o : Option Rd) (W : World) (va vb : Value) (wx : World) : Prop := ∃ b A c, va = .pointer (some ⟨b, 0, none⟩) ∧ vb = .bool o.isSome ∧ BoxAt wx b #[.int .i64 (o.getD (0, [])).1, .slice A (o.getD (0, [])).2.length c] ∧ RII wx A (o.getD (0, [])).2 ∧ W.heap.size ≤ b ∧ ∃ y, wx = ext W y
/-- sizes of what is looked up -/
theorem look_w {d : Dbd} (h : WDb d) {name : ByteArray} {r : Rd} (hl : lookD d name = some r) : r.2.length ≤ 1000000000 ∧ ∀ x ∈ r.2, x.length ≤ 1000000000 := by
  unfold lookD at hl
  split at hl
  · have := fndD_mem hl
    exact ⟨h.rn _ this, h.rl _ this⟩
  · cases hl
set_option maxRecDepth 100000 in
set_option maxHeartbeats 16000000 in
theorem IsQueryFor_any {A B C : Option Addr} {c e g : Nat} {d : Dbd} {q : Qd} {w : World} (hd : WDb d) (h1 : RV 3 vTb w A d) (hb : BQ q) (h2 : vQ w [.int .i64 q.1, .slice B q.2.1.length e, .slice C q.2.2.length g] q) :
    Calls Try.prog 74 #[.agg #[.slice A d.length c], .agg #[.int .i64 q.1, .slice B q.2.1.length e, .slice C q.2.2.length g]] w fun e w' => e = .returned (.bool (iqfB d q)) ∧ ∃ y, w' = ext w y := by
  have HD := Lib.hid hd
  have HB := Lib.hid hb
  have HV := Lib.hid h2
  have h3 := (vAts_get (vQ_get h2).1).2
  have hal := hb.2.1.1
  obtain ⟨t1, ht1⟩ : ∃ t, vqB q = t := ⟨_, rfl⟩
  obtain ⟨t2, ht2⟩ : ∃ t, dbB d = t := ⟨_, rfl⟩
  have HT1 := Lib.hid ht1
  have HT2 := Lib.hid ht2
  have HE := Lib.hid (show iqfB d q = (t1 && t2 && q.2.1.all (atFit d)) by unfold iqfB; rw [ht1, ht2])
  clear hd hb h2 ht1 ht2
  go_enter Try.func74, Try.ntmps74
  go_upto_region 1 with fail
  refine wp_name ?_
  intro W hW
  have xW : ∃ y, W = ext w y := by rw [hW.out]; exact (by refine x'z ?_; repeat (with_reducible (first | exact x'a _ _ | exact x'b _ | exact x'c (by assumption) | refine x'd ?_ (by assumption) | refine x'e ?_ _ | refine x'f ?_ _ | refine x'g ?_ | refine x'h ?_ ?_ _ | refine x'i ?_ _ | refine x'j ?_ | refine x'k ?_ _ | refine x'l ?_ _ _ | refine x'm ?_ | assumption | (refine x'n ?_; omega) | omega)))
  have PW : BoxAt W w.heap.size #[.slice A d.length c] := by rw [hW.out]; exact (by repeat (with_reducible (first | assumption | exact BoxAt.new _ _ _ | apply BoxAt.set10 | apply BoxAt.set2 | refine BoxAt.set2' ?_ (by omega) | apply BoxAt.setP0 | apply BoxAt.setP1 | refine BoxAt.setO ?_ (by omega) | refine BoxAt.alloc ?_ _ | refine BoxAt.drew ?_ | refine BoxAt.toExt ?_ (by assumption))))
  have QW : BoxAt W (w.heap.size + 1) #[.int .i64 q.1, .slice B q.2.1.length e, .slice C q.2.2.length g] := by
    rw [hW.out]
    simpa using BoxAt.new (w.alloc (.cells #[.slice A d.length c] 29)) #[.int .i64 q.1, .slice B q.2.1.length e, .slice C q.2.2.length g] 55
  obtain ⟨lq, q0, q1, q2, fq⟩ := box3 QW
  clear hW
  cases t1 with
  | false =>
    go_wp2_with (go_at_call 156; refine (IsValidQuery_any HB.out (VD.toExt HV.out xW)).mono ?_; rintro e w1 ⟨rfl, hx1⟩; rw [HT1.out])
    go_ret
    exact ⟨by rw [HE.out]; rfl, (by refine x'z ?_; repeat (with_reducible (first | exact x'a _ _ | exact x'b _ | exact x'c (by assumption) | refine x'd ?_ (by assumption) | refine x'e ?_ _ | refine x'f ?_ _ | refine x'g ?_ | refine x'h ?_ ?_ _ | refine x'i ?_ _ | refine x'j ?_ | refine x'k ?_ _ | refine x'l ?_ _ _ | refine x'm ?_ | assumption | (refine x'n ?_; omega) | omega)))⟩
  | true =>
    cases t2 with
    | false =>
      go_wp2_with (first
        | (go_at_call 156; refine (IsValidQuery_any HB.out (VD.toExt HV.out xW)).mono ?_; rintro e w1 ⟨rfl, hx1⟩; rw [HT1.out]; obtain ⟨lp1, p10, fp1⟩ := bx1 (PW.toExt hx1))
        | (go_at_call 63; refine (IsValidDatabase_w HD.out (h1.toExt (trans_ext xW hx1))).mono ?_; rintro e w2 ⟨rfl, hx2⟩; rw [HT2.out]))
      go_ret
      exact ⟨by rw [HE.out]; rfl, (by refine x'z ?_; repeat (with_reducible (first | exact x'a _ _ | exact x'b _ | exact x'c (by assumption) | refine x'd ?_ (by assumption) | refine x'e ?_ _ | refine x'f ?_ _ | refine x'g ?_ | refine x'h ?_ ?_ _ | refine x'i ?_ _ | refine x'j ?_ | refine x'k ?_ _ | refine x'l ?_ _ _ | refine x'm ?_ | assumption | (refine x'n ?_; omega) | omega)))⟩
    | true =>
      have HE2 := Lib.hid (show iqfB d q = q.2.1.all (atFit d) by rw [HE.out]; rfl)
      go_upto_region 3 with (first
        | (go_at_call 156; refine (IsValidQuery_any HB.out (VD.toExt HV.out xW)).mono ?_; rintro e w1 ⟨rfl, hx1⟩; rw [HT1.out]; obtain ⟨lp1, p10, fp1⟩ := bx1 (PW.toExt hx1))
        | (go_at_call 63; refine (IsValidDatabase_w HD.out (h1.toExt (trans_ext xW hx1))).mono ?_; rintro e w2 ⟨rfl, hx2⟩; rw [HT2.out]))
      have x2 := trans_ext hx1 hx2
      have xw2 := trans_ext xW x2
      have P2 := PW.toExt x2
      have Q2 := QW.toExt x2
      obtain ⟨lq2, q20, q21, q22, fq2⟩ := box3 Q2
      clear lq q0 q1 q2 fq lp1 p10 fp1 PW QW HB HV
      go_wp2_with fail
      clear lq2 q20 q21 q22 fq2
      go_loopw [20] (fun i wr => ∃ k : Nat, i = .int .i64 k ∧ k ≤ q.2.1.length ∧ (∃ y, wr = ext w2 y) ∧ Hid ((q.2.1.drop k).all (atFit d) = q.2.1.all (atFit d))) (fun i _ => q.2.1.length - (intOf i).toNat)
      case atStart => exact ⟨0, rfl, by omega, refl_ext w2, Lib.hid (by simp)⟩
      case round =>
        obtain ⟨k, rfl, hk, hy, Hj⟩ := hrel
        have hyw := trans_ext xw2 hy
        have P3 := P2.toExt hy
        obtain ⟨lp3, p30, fp3⟩ := bx1 P3
        by_cases hlt : k < q.2.1.length
        · obtain ⟨b, o, A1, c1, rfl, hbb, hc, hc1, hv⟩ := (h3.toExt hyw).atA hlt
          have e := Hj.out
          rw [fitL_step hlt] at e
          obtain ⟨x, hx⟩ : ∃ x, q.2.1[k] = x := ⟨_, rfl⟩
          rw [hx] at e hc hc1 hv
          obtain ⟨o, ho⟩ : ∃ o, lookD d x.1 = o := ⟨_, rfl⟩
          have HO := Lib.hid ho
          rw [atFit_look ho] at e
          clear hx ho hv
          cases o with
          | none =>
            have HF := Lib.hid (show q.2.1.all (atFit d) = false by rw [← e]; rfl)
            clear e
            go_wp2_with (go_at_call 147; refine (LookupRelation_any HD.out (h1.toExt (trans_ext hyw (by refine x'z ?_; repeat (with_reducible (first | exact x'a _ _ | exact x'b _ | exact x'c (by assumption) | refine x'd ?_ (by assumption) | refine x'e ?_ _ | refine x'f ?_ _ | refine x'g ?_ | refine x'h ?_ ?_ _ | refine x'i ?_ _ | refine x'j ?_ | refine x'k ?_ _ | refine x'l ?_ _ _ | refine x'm ?_ | assumption | (refine x'n ?_; omega) | omega)))))).mono ?_; rw [HO.out]; rintro e w3 ⟨u0, u1, F3, rfl, hx3, hS3, hN3, hF3⟩; obtain ⟨A3, c3, rfl, rfl, _⟩ := sRel_form hS3)
            go_ret
            exact ⟨by rw [HE2.out, HF.out]; rfl, (by refine x'z ?_; repeat (with_reducible (first | exact x'a _ _ | exact x'b _ | exact x'c (by assumption) | refine x'd ?_ (by assumption) | refine x'e ?_ _ | refine x'f ?_ _ | refine x'g ?_ | refine x'h ?_ ?_ _ | refine x'i ?_ _ | refine x'j ?_ | refine x'k ?_ _ | refine x'l ?_ _ _ | refine x'm ?_ | assumption | (refine x'n ?_; omega) | omega)))⟩
          | some r =>
            by_cases hr : r.1 = (x.2.length : Int)
            · rw [show fitO (some r) x.2.length = true from decide_eq_true hr] at e
              have HK := Lib.hid (show (q.2.1.drop (k + 1)).all (atFit d) = q.2.1.all (atFit d) by rw [← e]; rfl)
              have hne : (r.1 != (x.2.length : Int)) = false := by simpa using hr
              clear e hr
              go_wp2_with (go_at_call 147; refine (LookupRelation_any HD.out (h1.toExt (trans_ext hyw (by refine x'z ?_; repeat (with_reducible (first | exact x'a _ _ | exact x'b _ | exact x'c (by assumption) | refine x'd ?_ (by assumption) | refine x'e ?_ _ | refine x'f ?_ _ | refine x'g ?_ | refine x'h ?_ ?_ _ | refine x'i ?_ _ | refine x'j ?_ | refine x'k ?_ _ | refine x'l ?_ _ _ | refine x'm ?_ | assumption | (refine x'n ?_; omega) | omega)))))).mono ?_; rw [HO.out]; rintro e w3 ⟨u0, u1, F3, rfl, hx3, hS3, hN3, hF3⟩; obtain ⟨A3, c3, rfl, rfl, _⟩ := sRel_form hS3; have T3 : BoxAt w3 wr.heap.size #[.string x.1, .slice A1 x.2.length c1] := (by repeat (with_reducible (first | assumption | exact BoxAt.new _ _ _ | apply BoxAt.set2 | refine BoxAt.set2' ?_ (by omega) | apply BoxAt.setP0 | apply BoxAt.setP1 | refine BoxAt.setO ?_ (by omega) | refine BoxAt.alloc ?_ _ | refine BoxAt.drew ?_ | refine BoxAt.toExt ?_ (by assumption)))); obtain ⟨lt3, t30, t31, ft3⟩ := bx2 T3; simp only [Option.getD_some] at *)
              exact ⟨⟨k + 1, by go_num, by omega, (by refine x'z ?_; repeat (with_reducible (first | exact x'a _ _ | exact x'b _ | exact x'c (by assumption) | refine x'd ?_ (by assumption) | refine x'e ?_ _ | refine x'f ?_ _ | refine x'g ?_ | refine x'h ?_ ?_ _ | refine x'i ?_ _ | refine x'j ?_ | refine x'k ?_ _ | refine x'l ?_ _ _ | refine x'm ?_ | assumption | (refine x'n ?_; omega) | omega))), HK⟩, by simp [intOf]; omega⟩
            · rw [show fitO (some r) x.2.length = false from decide_eq_false hr] at e
              have HF := Lib.hid (show q.2.1.all (atFit d) = false by rw [← e]; rfl)
              have hne : (r.1 != (x.2.length : Int)) = true := by simpa using hr
              clear e hr
              go_wp2_with (go_at_call 147; refine (LookupRelation_any HD.out (h1.toExt (trans_ext hyw (by refine x'z ?_; repeat (with_reducible (first | exact x'a _ _ | exact x'b _ | exact x'c (by assumption) | refine x'd ?_ (by assumption) | refine x'e ?_ _ | refine x'f ?_ _ | refine x'g ?_ | refine x'h ?_ ?_ _ | refine x'i ?_ _ | refine x'j ?_ | refine x'k ?_ _ | refine x'l ?_ _ _ | refine x'm ?_ | assumption | (refine x'n ?_; omega) | omega)))))).mono ?_; rw [HO.out]; rintro e w3 ⟨u0, u1, F3, rfl, hx3, hS3, hN3, hF3⟩; obtain ⟨A3, c3, rfl, rfl, _⟩ := sRel_form hS3; have T3 : BoxAt w3 wr.heap.size #[.string x.1, .slice A1 x.2.length c1] := (by repeat (with_reducible (first | assumption | exact BoxAt.new _ _ _ | apply BoxAt.set2 | refine BoxAt.set2' ?_ (by omega) | apply BoxAt.setP0 | apply BoxAt.setP1 | refine BoxAt.setO ?_ (by omega) | refine BoxAt.alloc ?_ _ | refine BoxAt.drew ?_ | refine BoxAt.toExt ?_ (by assumption)))); obtain ⟨lt3, t30, t31, ft3⟩ := bx2 T3; simp only [Option.getD_some] at *)
              go_ret
              exact ⟨by rw [HE2.out, HF.out]; rfl, (by refine x'z ?_; repeat (with_reducible (first | exact x'a _ _ | exact x'b _ | exact x'c (by assumption) | refine x'd ?_ (by assumption) | refine x'e ?_ _ | refine x'f ?_ _ | refine x'g ?_ | refine x'h ?_ ?_ _ | refine x'i ?_ _ | refine x'j ?_ | refine x'k ?_ _ | refine x'l ?_ _ _ | refine x'm ?_ | assumption | (refine x'n ?_; omega) | omega)))⟩
        · have e := Hj.out
          rw [fitL_end hlt] at e
          have HK := Lib.hid (show iqfB d q = true by rw [HE2.out, ← e])
          clear e Hj
          go_wp2
          go_ret
          exact ⟨by rw [HK.out]; rfl, hyw⟩
set_option maxRecDepth 100000 in
set_option maxHeartbeats 16000000 in
theorem specIsQueryFor_any {A B C : Option Addr} {c e g : Nat} {d : Dbd} {q : Qd} {w : World} (hd : WDb d) (h1 : RV 3 vTb w A d) (hb : BQ q) (h2 : vQ w [.int .i64 q.1, .slice B q.2.1.length e, .slice C q.2.2.length g] q) :
    Calls Try.prog 75 #[.agg #[.slice A d.length c], .agg #[.int .i64 q.1, .slice B q.2.1.length e, .slice C q.2.2.length g]] w fun e w' => e = .returned (.bool (iqfB d q)) ∧ ∃ y, w' = ext w y := by
  have HD := Lib.hid hd
  have HB := Lib.hid hb
  have HV := Lib.hid h2
  have h3 := (vAts_get (vQ_get h2).1).2
  have hal := hb.2.1.1
  obtain ⟨t1, ht1⟩ : ∃ t, vqB q = t := ⟨_, rfl⟩
  obtain ⟨t2, ht2⟩ : ∃ t, dbB d = t := ⟨_, rfl⟩
  have HT1 := Lib.hid ht1
  have HT2 := Lib.hid ht2
  have HE := Lib.hid (show iqfB d q = (t1 && t2 && q.2.1.all (atFit d)) by unfold iqfB; rw [ht1, ht2])
  have HF := Lib.hid (fun (h : q.2.1.all (atFit d) = false) => show iqfB d q = false by unfold iqfB; rw [h, Bool.and_false])
  clear hd hb h2 ht1 ht2
  go_enter Try.func75, Try.ntmps75
  go_upto_region 1 with fail
  refine wp_name ?_
  intro W hW
  have xW : ∃ y, W = ext w y := by rw [hW.out]; exact (by refine x'z ?_; repeat (with_reducible (first | exact x'a _ _ | exact x'b _ | exact x'c (by assumption) | refine x'd ?_ (by assumption) | refine x'e ?_ _ | refine x'f ?_ _ | refine x'g ?_ | refine x'h ?_ ?_ _ | refine x'i ?_ _ | refine x'j ?_ | refine x'k ?_ _ | refine x'l ?_ _ _ | refine x'm ?_ | assumption | (refine x'n ?_; omega) | omega)))
  have PW : BoxAt W w.heap.size #[.slice A d.length c] := by rw [hW.out]; exact (by repeat (with_reducible (first | assumption | exact BoxAt.new _ _ _ | apply BoxAt.set10 | apply BoxAt.set2 | refine BoxAt.set2' ?_ (by omega) | apply BoxAt.setP0 | apply BoxAt.setP1 | refine BoxAt.setO ?_ (by omega) | refine BoxAt.alloc ?_ _ | refine BoxAt.drew ?_ | refine BoxAt.toExt ?_ (by assumption))))
  have QW : BoxAt W (w.heap.size + 1) #[.int .i64 q.1, .slice B q.2.1.length e, .slice C q.2.2.length g] := by
    rw [hW.out]
    simpa using BoxAt.new (w.alloc (.cells #[.slice A d.length c] 29)) #[.int .i64 q.1, .slice B q.2.1.length e, .slice C q.2.2.length g] 55
  clear hW
  go_wp2_with fail
  go_loopw [5] (fun i wr => ∃ k : Nat, i = .int .i64 k ∧ k ≤ q.2.1.length ∧ (∃ y, wr = ext W y) ∧ Hid ((q.2.1.drop k).all (atFit d) = q.2.1.all (atFit d))) (fun i _ => q.2.1.length - (intOf i).toNat)
  case atStart => exact ⟨0, rfl, by omega, refl_ext W, Lib.hid (by simp)⟩
  case round =>
    obtain ⟨k, rfl, hk, hy, Hj⟩ := hrel
    have hyw := trans_ext xW hy
    have P3 := PW.toExt hy
    have Q3 := QW.toExt hy
    obtain ⟨lp3, p30, fp3⟩ := bx1 P3
    obtain ⟨lq3, q30, q31, q32, fq3⟩ := box3 Q3
    by_cases hlt : k < q.2.1.length
    · obtain ⟨b, o, A1, c1, rfl, hbb, hc, hc1, hv⟩ := (h3.toExt hyw).atA hlt
      have e := Hj.out
      rw [fitL_step hlt] at e
      obtain ⟨x, hx⟩ : ∃ x, q.2.1[k] = x := ⟨_, rfl⟩
      rw [hx] at e hc hc1 hv
      obtain ⟨o, ho⟩ : ∃ o, lookD d x.1 = o := ⟨_, rfl⟩
      have HO := Lib.hid ho
      rw [atFit_look ho] at e
      clear hx ho hv
      go_upto_region 4 with fail
      go_cut [6, 7] (CutR o wr)
      case first =>
        go_region_held3 (fun w' => (∀ a : Addr, a.block < wr.heap.size → w'.cell? a = wr.cell? a) ∧ ∃ y, w' = ext wr y) (first | exact heldE (by refine x'z ?_; repeat (with_reducible (first | exact x'a _ _ | exact x'b _ | exact x'c (by assumption) | refine x'd ?_ (by assumption) | refine x'e ?_ _ | refine x'f ?_ _ | refine x'g ?_ | refine x'h ?_ ?_ _ | refine x'i ?_ _ | refine x'j ?_ | refine x'k ?_ _ | refine x'l ?_ _ _ | refine x'm ?_ | assumption | (refine x'n ?_; omega) | omega)))) ((go_at_call 71; refine (specLookupRelation_any HD.out (h1.toExt (trans_ext hyw (by refine x'z ?_; repeat (with_reducible (first | exact x'a _ _ | exact x'b _ | exact x'c (by assumption) | refine x'd ?_ (by assumption) | refine x'e ?_ _ | refine x'f ?_ _ | refine x'g ?_ | refine x'h ?_ ?_ _ | refine x'i ?_ _ | refine x'j ?_ | refine x'k ?_ _ | refine x'l ?_ _ _ | refine x'm ?_ | assumption | (refine x'n ?_; omega) | omega)))))).mono ?_; rw [HO.out]; rintro e w3 ⟨u0, u1, F3, rfl, hx3, hS3, hN3, hF3⟩; obtain ⟨A3, c3, rfl, rfl, hI3⟩ := sRel_form hS3; (first | (have L3 : BoxAt w3 wr.heap.size #[.int .i64 0, .slice none 0 0] := BoxAt.toExt (BoxAt.new wr _ _) hx3; obtain ⟨z1, z2, z3, z4⟩ := bx2 L3) | (have L3 : BoxAt w3 wr.heap.size #[.int .i64 0, .slice none 0 0] := BoxAt.toExt (BoxAt.new wr.drew _ _) hx3; obtain ⟨z1, z2, z3, z4⟩ := bx2 L3) | (have L3 : BoxAt w3 wr.heap.size #[.int .i64 0, .slice none 0 0] := BoxAt.toExt (BoxAt.new wr _ _).drew hx3; obtain ⟨z1, z2, z3, z4⟩ := bx2 L3) | skip)))
        all_goals
          go_wp2_with fail
          go_meet
          have hz3 := size_of_ext hx3
          (first | simp only [World.size_alloc, World.drew] at hz3 hF3 | simp only [World.drew] at hz3 hF3)
          first
            | exact ⟨w3.heap.size, A3, c3, rfl, rfl, BoxAt.new _ _ _, (vII_get (sII_v _ _ _ (OD.toExt hI3 (alloc_ext _ _)))).2, by omega, (by refine x'z ?_; repeat (with_reducible (first | exact x'a _ _ | exact x'b _ | exact x'c (by assumption) | refine x'd ?_ (by assumption) | refine x'e ?_ _ | refine x'f ?_ _ | refine x'g ?_ | refine x'h ?_ ?_ _ | refine x'i ?_ _ | refine x'j ?_ | refine x'k ?_ _ | refine x'l ?_ _ _ | refine x'm ?_ | assumption | (refine x'n ?_; omega) | omega)))⟩
            | exact ⟨wr.heap.size, A3, c3, rfl, rfl, (by repeat (with_reducible (first | assumption | exact BoxAt.new _ _ _ | apply BoxAt.set2 | refine BoxAt.set2' ?_ (by omega) | apply BoxAt.setP0 | apply BoxAt.setP1 | refine BoxAt.setO ?_ (by omega) | refine BoxAt.alloc ?_ _ | refine BoxAt.drew ?_ | refine BoxAt.toExt ?_ (by assumption)))), (vII_get (sII_v _ _ _ (OD.chg (G := [wr.heap.size]) hI3 (by repeat (with_reducible (first | exact Chg.refl _ _ | refine Chg.trans0 ?_ (by assumption) | refine Chg.extS ?_ _ | refine Chg.alloc ?_ _ | refine Chg.drew ?_ | refine Chg.setCell ?_ (.inl (by simp)) _))) (fun x hx hm => by have := hF3 x hx; rw [List.mem_singleton.1 hm] at this; omega)))).2, by omega, (by refine x'z ?_; repeat (with_reducible (first | exact x'a _ _ | exact x'b _ | exact x'c (by assumption) | refine x'd ?_ (by assumption) | refine x'e ?_ _ | refine x'f ?_ _ | refine x'g ?_ | refine x'h ?_ ?_ _ | refine x'i ?_ _ | refine x'j ?_ | refine x'k ?_ _ | refine x'l ?_ _ _ | refine x'm ?_ | assumption | (refine x'n ?_; omega) | omega)))⟩
      obtain ⟨bX, A3, c3, rfl, rfl, BX, hvX, hbX, hxX⟩ := hcut
      obtain ⟨w4, rfl⟩ : ∃ W, W = wc := ⟨_, rfl⟩
      have hyw4 := trans_ext hyw hxX
      have hc4 := cellW hxX hbb hc
      have hc14 := cellW hxX hbb hc1
      have hb4 := ltW hxX hbb
      obtain ⟨lq4, q40, q41, q42, fq4⟩ := box3 (Q3.toExt hxX)
      obtain ⟨lx4, x40, x41, fx4⟩ := bx2 BX
      clear lq3 q30 q31 q32 fq3 lp3 p30 fp3 hc hc1 hbb
      cases o with
      | none =>
        have HF2 := Lib.hid (HF.out (by rw [← e]; rfl))
        clear e
        go_wp2_with fail
        refine wp_region_ext (by kernel_rfl) (by kernel_rfl) ?_
        repeat (go_big_quiet_step (fail))
        refine wpQuiet_nil ?_
        rintro _ ⟨zz, rfl⟩
        go_wp2
        go_ret
        exact ⟨by rw [HF2.out]; rfl, trans_ext hyw4 ⟨_, rfl⟩⟩
      | some r =>
        simp only [Option.getD_some] at x40 x41
        by_cases hr : r.1 = (x.2.length : Int)
        · rw [show fitO (some r) x.2.length = true from decide_eq_true hr] at e
          have HK := Lib.hid (show (q.2.1.drop (k + 1)).all (atFit d) = q.2.1.all (atFit d) by rw [← e]; rfl)
          have hne : (r.1 != (x.2.length : Int)) = false := by simpa using hr
          clear e hr
          go_wp2_with fail
          refine wp_region_ext (by kernel_rfl) (by kernel_rfl) ?_
          repeat (go_big_quiet_step (fail))
          refine wpQuiet_nil ?_
          rintro _ ⟨zz, rfl⟩
          go_wp2
          exact ⟨⟨k + 1, by go_num, by omega, trans_ext (trans_ext hy hxX) ⟨_, rfl⟩, HK⟩, by simp [intOf]; omega⟩
        · rw [show fitO (some r) x.2.length = false from decide_eq_false hr] at e
          have HF2 := Lib.hid (HF.out (by rw [← e]; rfl))
          have hne : (r.1 != (x.2.length : Int)) = true := by simpa using hr
          clear e hr
          go_wp2_with fail
          refine wp_region_ext (by kernel_rfl) (by kernel_rfl) ?_
          repeat (go_big_quiet_step (fail))
          refine wpQuiet_nil ?_
          rintro _ ⟨zz, rfl⟩
          go_wp2
          go_ret
          exact ⟨by rw [HF2.out]; rfl, trans_ext hyw4 ⟨_, rfl⟩⟩
    · have e := Hj.out
      rw [fitL_end hlt] at e
      have HK := Lib.hid (show iqfB d q = (t1 && t2) by rw [HE.out, ← e, Bool.and_true])
      clear e Hj
      cases t1 with
      | false =>
        go_wp2_with (go_at_call 157; refine (specIsValidQuery_any HB.out (VD.toExt HV.out hyw)).mono ?_; rintro e w1 ⟨rfl, hx1⟩; rw [HT1.out])
        go_ret
        exact ⟨by rw [HK.out]; rfl, trans_ext hyw hx1⟩
      | true =>
        cases t2
        all_goals
          go_wp2_with (first
            | (go_at_call 157; refine (specIsValidQuery_any HB.out (VD.toExt HV.out hyw)).mono ?_; rintro e w1 ⟨rfl, hx1⟩; rw [HT1.out]; obtain ⟨lp1, p10, fp1⟩ := bx1 (P3.toExt hx1))
            | (go_at_call 60; refine (specIsValidDatabase_w HD.out (h1.toExt (trans_ext hyw hx1))).mono ?_; rintro e w2 ⟨rfl, hx2⟩; rw [HT2.out]))
          go_ret
          exact ⟨by rw [HK.out]; rfl, trans_ext hyw (trans_ext hx1 hx2)⟩
end Go.Proofs.Ytfigcfajkilhiaa

/- What is known of a query that fits a database. No program in it. -/
namespace Go.Proofs.Ytfigcfajkilhiaa
open Go.RowKit
theorem qok {d : Dbd} {q : Qd} (h : iqfB d q = true) : QOk d q := by
  unfold iqfB at h
  simp only [Bool.and_eq_true] at h
  obtain ⟨⟨h1, h2⟩, h3⟩ := h
  obtain ⟨v1, v2, v3⟩ := vqB_vars h1
  have h4 := h1
  unfold vqB at h4
  simp only [Bool.and_eq_true] at h4
  obtain ⟨⟨⟨⟨_, k2⟩, k3⟩, _⟩, k5⟩ := h4
  have b2 := inB_t k2
  have k3 := (setB_sound k3).1
  refine ⟨v1, v2, h2, by omega, by omega, fun a ha => (List.all_eq_true.1 h3) a ha, v3, fun v h0 hl => ?_, fun v hv => by have := k3 v hv; omega⟩
  unfold coverB mkU at k5
  rw [List.all_eq_true] at k5
  have := k5 (decide ((v.toNat : Int) ∈ seen q.2.1)) (List.mem_map.2 ⟨v.toNat, List.mem_range.2 (by omega), rfl⟩)
  have := of_decide_eq_true this
  rw [Int.toNat_of_nonneg h0] at this
  unfold seen at this
  obtain ⟨a, ha, hv⟩ := List.mem_flatMap.1 this
  exact ⟨a, ha, hv⟩
theorem atFit_get {d : Dbd} {a : At} (h : atFit d a = true) : lookD d a.1 = some (relOf d a) := by
  unfold atFit at h
  unfold relOf
  cases e : lookD d a.1 with
  | none => rw [e] at h; cases h
  | some r => rfl
end Go.Proofs.Ytfigcfajkilhiaa

/- The reference's walk over the atoms of a query. -/
namespace Go.Proofs.Ytfigcfajkilhiaa
open Go.RowKit

theorem fitX_step {X vs ys : List Int} {k : Nat} (h : k < vs.length) (h' : k < ys.length) : fitX X (vs.drop k) (ys.drop k) = if X.getD (vs.getD k 0).toNat 0 = -1 ∨ X.getD (vs.getD k 0).toNat 0 = ys.getD k 0 then fitX (X.set (vs.getD k 0).toNat (ys.getD k 0)) (vs.drop (k + 1)) (ys.drop (k + 1)) else none := by
  rw [List.drop_eq_getElem_cons h, List.drop_eq_getElem_cons h', fitX, getDl _ _ h, getDl _ _ h']
theorem fitX_end {X vs ys : List Int} {k : Nat} (h : ¬ k < vs.length) : fitX X (vs.drop k) (ys.drop k) = some X := by
  rw [List.drop_eq_nil_of_le (by omega)]
  cases ys.drop k <;> rfl
theorem fitX_len : ∀ {vs ys X z : List Int}, fitX X vs ys = some z → z.length = X.length
  | [], [], X, z, h => by simp [fitX] at h; rw [h]
  | [], _ :: _, X, z, h => by simp [fitX] at h; rw [h]
  | _ :: _, [], X, z, h => by simp [fitX] at h; rw [h]
  | v :: vs, y :: ys, X, z, h => by
    rw [fitX] at h
    split at h
    · rw [fitX_len h, List.length_set]
    · cases h
def walk1 (d : Dbd) (ats : List At) (vs row r : List Int) : List (List Int) := match fitX row vs r with | some x => walkL d ats x | none => []
theorem walk_cons {d : Dbd} {a : At} {ats : List At} {row : List Int} : walkL d (a :: ats) row = (relOf d a).2.flatMap (walk1 d ats a.2 row) := rfl
theorem walk1_some {d : Dbd} {ats : List At} {vs row r x : List Int} (h : fitX row vs r = some x) : walk1 d ats vs row r = walkL d ats x := by unfold walk1; rw [h]
theorem walk1_none {d : Dbd} {ats : List At} {vs row r : List Int} (h : fitX row vs r = none) : walk1 d ats vs row r = [] := by unfold walk1; rw [h]
theorem walkL_el {d : Dbd} : ∀ {ats : List At} {row z : List Int}, z ∈ walkL d ats row → z.length = row.length
  | [], row, z, h => by rw [walkL, List.mem_singleton] at h; rw [h]
  | a :: ats, row, z, h => by
    rw [walk_cons, List.mem_flatMap] at h
    obtain ⟨r, _, hz⟩ := h
    unfold walk1 at hz
    split at hz
    · rename_i x e
      rw [walkL_el hz, fitX_len e]
    · simp at hz
theorem flat_bd {α β : Type} {f : α → List β} {n : Nat} (h : ∀ a, (f a).length ≤ n) : ∀ (l : List α), (l.flatMap f).length ≤ n * l.length
  | [] => by simp
  | a :: l => by
    have := flat_bd h l
    have h1 := h a
    rw [List.flatMap_cons, List.length_append, List.length_cons, Nat.mul_add]
    omega
theorem walkL_len {d : Dbd} : ∀ {ats : List At} {row : List Int}, (∀ a ∈ ats, (relOf d a).2.length ≤ 16) → (walkL d ats row).length ≤ 16 ^ ats.length
  | [], row, _ => by simp [walkL]
  | a :: ats, row, h => by
    have h1 := h a (by simp)
    rw [walk_cons]
    have h2 : ∀ r, (walk1 d ats a.2 row r).length ≤ 16 ^ ats.length := fun r => by
      unfold walk1
      split
      · exact walkL_len fun b hb => h b (by simp [hb])
      · simp
    refine Nat.le_trans (flat_bd h2 _) ?_
    rw [List.length_cons, Nat.pow_succ]
    exact Nat.mul_le_mul_left _ h1
theorem flat_step {α β : Type} {f : α → List β} {l : List α} {k : Nat} (h : k < l.length) : (l.take (k + 1)).flatMap f = (l.take k).flatMap f ++ f l[k] := by
  rw [List.take_succ_eq_append_getElem h, List.flatMap_append]
  simp
theorem flat_take_len {α β : Type} {f : α → List β} {l : List α} {k : Nat} : ((l.take k).flatMap f).length ≤ (l.flatMap f).length := by
  have : l.flatMap f = (l.take k).flatMap f ++ (l.drop k).flatMap f := by rw [← List.flatMap_append, List.take_append_drop]
  rw [this]
  simp
theorem SV.lit1 {α : Type} {te : Nat} {E : SE α} [SMono E] {w : World} {v : Value} {d : α} {G : List Nat} (hE : E w [v] d G) : SV te 1 E (w.alloc (.cells #[v] te)) (.slice (some ⟨w.heap.size, 0, none⟩) 1 1) [d] (w.heap.size :: G) :=
  ⟨[v], G, ⟨by simp, .inr ⟨w.heap.size, 1, #[v], rfl, Nat.zero_le _, heap_alloc_new w _, Nat.le_refl _, by simp [maxLen], by simp, by simp⟩⟩, elems_one rfl (SMono.keep hE fun b hb => by
    obtain ⟨y, e⟩ := alloc_ext w (.cells #[v] te)
    rw [e]; exact (below_ext w y).block b (SMono.lt hE b hb)), rfl⟩
section
variable {P : Program} {w : World} {α : Type} {E : SE α} [SMono E] {te size bytes : Nat}
theorem wpList_appP {ops : Array Oper} {rest : List Oper} {o : Oper} {a : Act} {Q : Exit → Act → World → Prop} (hgd : o.guard = none) (s x : Operand) (t : TypeId)
    (ho : o.op = .call { callee := .builtin .append, args := #[s, x], argTypes := #[t, t] })
    {z : Value} (hT : SlT P t te size bytes z) {v : Value} {ds : List α} {F : List Nat} (hs : a.eval s = v) (hS : SV te size E w v ds F) (hN : F.Nodup)
    {A : Option Addr} {m c : Nat} {es : List α} {G : List Nat} (hx : a.eval x = .slice A m c) (hm : m = es.length) (hL : Lie size E w A es G) (hN2 : (F ++ G).Nodup) (hlen : ds.length + m ≤ 2000000000) (hby : bytes ≤ 60000)
    (h : ∀ v' w' F', SV te size E w' v' (ds ++ es) F' → Chg F w w' → F'.Nodup → (∀ b ∈ F', b ∈ F ∨ b ∈ G ∨ w.heap.size ≤ b) → wpList P ops Q rest (a.put o.dst v') w') : wpList P ops Q (o :: rest) a w :=
  wpList_plain hgd fun _ hK => wp_appP s x t ho hT hs hS hN hx hm hL hN2 hlen hby fun v' w' F' h2 h3 h4 h5 => hK _ _ (h v' w' F' h2 h3 h4 h5)
end
theorem sRow_1 (w : World) (c : List Value) (d : List Int) (F : List Nat) (h : sRow w c d F) : ∀ u ∈ c, u.oneCell' = true := by
  obtain ⟨v, rfl, h⟩ := h
  obtain ⟨A, cap, rfl, _⟩ := h.form
  simp [Value.oneCell']
/-- the whole of an owned row, to be put behind another -/
theorem SV.whole {te : Nat} {w : World} {A : Option Addr} {n c : Nat} {ds : List (List Int)} {F : List Nat} (h : SV te 1 sRow w (.slice A n c) ds F) (hN : F.Nodup) : ∃ G, Lie 1 sRow w A ds G ∧ G.Nodup ∧ (∀ b ∈ G, b ∈ F) := by
  obtain ⟨A', cap, G1, G2, e, _, _, _, _, _, m1, _, n1, _, _, L1, _⟩ := h.parts (fun w c d F h => sRow_1 w c d F h) hN (k := ds.length) (Nat.le_refl _)
  injection e with e _ _
  subst e
  rw [List.take_length] at L1
  exact ⟨G1, L1, n1, m1⟩
def WalkP (d : Dbd) (q : Qd) (n : Nat) (row : List Int) (w : World) (e : Ending) (w' : World) : Prop := ∃ A c F, e = .returned (.slice A (walkL d (q.2.1.drop n) row).length c) ∧ (∃ y, w' = ext w y) ∧ SV 48 1 sRow w' (.slice A (walkL d (q.2.1.drop n) row).length c) (walkL d (q.2.1.drop n) row) F ∧ F.Nodup ∧ ∀ b ∈ F, w.heap.size ≤ b
theorem walkP_mk {d : Dbd} {q : Qd} {n : Nat} {row : List Int} {w w' : World} {e : Ending} {v : Value} {l : List (List Int)} {F : List Nat} (hl : walkL d (q.2.1.drop n) row = l) (he : e = .returned v) (hx : ∃ y, w' = ext w y) (hS : SV 48 1 sRow w' v l F) (hN : F.Nodup) (hF : ∀ b ∈ F, w.heap.size ≤ b) : WalkP d q n row w e w' := by
  subst hl
  obtain ⟨A, c, rfl, _⟩ := hS.form
  exact ⟨A, c, F, he, hx, hS, hN, hF⟩
/-- what is known where a relation was looked up into a fresh box: the rows are owned -/
def CutW (o : Option Rd) (W : World) (va vb : Value) (wx : World) : Prop := ∃ b A c F, va = .pointer (some ⟨b, 0, none⟩) ∧ vb = .bool o.isSome ∧ BoxAt wx b #[.int .i64 (o.getD (0, [])).1, .slice A (o.getD (0, [])).2.length c] ∧ sII wx [.slice A (o.getD (0, [])).2.length c] (o.getD (0, [])).2 F ∧ (∀ x ∈ F, W.heap.size ≤ x) ∧ W.heap.size ≤ b ∧ ∃ y, wx = ext W y
set_option maxRecDepth 100000 in
set_option maxHeartbeats 16000000 in
theorem l8Walk_any {A B C : Option Addr} {c e g nr : Nat} {d : Dbd} {q : Qd} {W0 : World} (hd : WDb d) (h1 : RV 3 vTb W0 A d) (h2 : vQ W0 [.int .i64 q.1, .slice B q.2.1.length e, .slice C q.2.2.length g] q) (hq : QOk d q) (hnr : (nr : Int) = q.1) : ∀ (m n : Nat) (R : Option Addr) (cr : Nat) (row : List Int) (w : World) (_ : n + m = q.2.1.length) (_ : ∃ y, w = ext W0 y) (_ : row.length = nr) (_ : RI w R row),
    Calls Try.prog 103 #[.agg #[.slice A d.length c], .agg #[.int .i64 q.1, .slice B q.2.1.length e, .slice C q.2.2.length g], .int .i64 n, .slice R nr cr] w (WalkP d q n row w) := by
  have HD := Lib.hid hd
  have HQ := Lib.hid hq
  have h3 := (vAts_get (vQ_get h2).1).2
  have hal := hq.at4
  have hn1 := hq.n1
  have hn5 := hq.n5
  have HNR := Lib.hid hnr
  clear hd hq h2 hnr
  intro m
  induction m with
  | zero =>
    as_aux_lemma =>
    intro n R cr row w hnm hw0 hrl hR
    have hn : n = q.2.1.length := by omega
    have HL := Lib.hid (show walkL d (q.2.1.drop n) row = [row] by rw [List.drop_eq_nil_of_le (by omega)]; rfl)
    have hrl2 : row.length ≤ 2000000000 := by have := HNR.out; omega
    go_enter Try.func103, Try.ntmps103
    go_upto_region 1 with fail
    refine wp_name ?_
    intro W hW
    have xW : ∃ y, W = ext w y := by rw [hW.out]; exact (by refine x'z ?_; repeat (with_reducible (first | exact x'a _ _ | exact x'b _ | exact x'c (by assumption) | refine x'd ?_ (by assumption) | refine x'e ?_ _ | refine x'f ?_ _ | refine x'g ?_ | refine x'h ?_ ?_ _ | refine x'i ?_ _ | refine x'j ?_ | refine x'k ?_ _ | refine x'l ?_ _ _ | refine x'm ?_ | assumption | (refine x'n ?_; omega) | omega)))
    have QW : BoxAt W (w.heap.size + 1) #[.int .i64 q.1, .slice B q.2.1.length e, .slice C q.2.2.length g] := by
      rw [hW.out]
      simpa using BoxAt.new (w.alloc (.cells #[.slice A d.length c] 29)) #[.int .i64 q.1, .slice B q.2.1.length e, .slice C q.2.2.length g] 55
    obtain ⟨lq, q0, q1, q2, fq⟩ := box3 QW
    have hS0 := SV.empty (α := Int) (te := 3) (size := 1) (E := sI) W
    have hzW := size_of_ext xW
    have hbe : ((n : Int) == (q.2.1.length : Int)) = true := by simp; omega
    have HRL := Lib.hid hrl
    clear hW hn hrl
    go_wp2_with (at_builtin; refine wpList_appV (E := sI) (V := vI) (es := row) rfl _ _ _ rfl tI rfl hS0 rfl HRL.out.symm (hR.toExt (trans_ext xW (by refine x'z ?_; repeat (with_reducible (first | exact x'a _ _ | exact x'b _ | exact x'c (by assumption) | refine x'd ?_ (by assumption) | refine x'e ?_ _ | refine x'f ?_ _ | refine x'g ?_ | refine x'h ?_ ?_ _ | refine x'i ?_ _ | refine x'j ?_ | refine x'k ?_ _ | refine x'l ?_ _ _ | refine x'm ?_ | assumption | (refine x'n ?_; omega) | omega))))) vI_s vI_1 (by have := HRL.out; simp; omega) (by omega) ?_; intro v' w' F' hS hC hF; rw [List.nil_append] at hS; obtain ⟨A9, c9, rfl, _, _⟩ := hS.form)
    go_ret
    have hxw' : ∃ y, w' = ext W y := hC.isExt (by refine x'z ?_; repeat (with_reducible (first | exact x'a _ _ | exact x'b _ | exact x'c (by assumption) | refine x'd ?_ (by assumption) | refine x'e ?_ _ | refine x'f ?_ _ | refine x'g ?_ | refine x'h ?_ ?_ _ | refine x'i ?_ _ | refine x'j ?_ | refine x'k ?_ _ | refine x'l ?_ _ _ | refine x'm ?_ | assumption | (refine x'n ?_; omega) | omega))) (by simp)
    have hFn : ∀ b ∈ F', W.heap.size ≤ b := fun b hb => by
      rcases hF b hb with h | h
      · simp at h; omega
      · simp at h; omega
    refine walkP_mk HL.out rfl (by refine x'z ?_; repeat (with_reducible (first | exact x'a _ _ | exact x'b _ | exact x'c (by assumption) | refine x'd ?_ (by assumption) | refine x'e ?_ _ | refine x'f ?_ _ | refine x'g ?_ | refine x'h ?_ ?_ _ | refine x'i ?_ _ | refine x'j ?_ | refine x'k ?_ _ | refine x'l ?_ _ _ | refine x'm ?_ | assumption | (refine x'n ?_; omega) | omega))) (SV.lit1 (te := 48) (E := sRow) (d := row) (G := F') ⟨_, rfl, hS⟩) ?_ ?_
    · rw [List.nodup_cons]
      exact ⟨fun h => by have := hS.lt _ h; omega, hS.nodup⟩
    · intro b hb
      have := size_of_ext hxw'
      rcases List.mem_cons.1 hb with h | h
      · omega
      · have := hFn b h; omega
  | succ m ih =>
    intro n R cr row w hnm hw0 hrl hR
    have HIH := Lib.hid ih
    clear ih
    have hnc : ((n + 1 : Nat) : Int) = (n : Int) + 1 := by omega
    have hlt0 : n < q.2.1.length := by omega
    have hfit := HQ.out.fit _ (List.getElem_mem hlt0)
    have hvars := HQ.out.vars _ (List.getElem_mem hlt0)
    have hds : q.2.1.drop n = q.2.1[n] :: q.2.1.drop (n + 1) := List.drop_eq_getElem_cons hlt0
    have HWL := Lib.hid (fun X => walkL_len (d := d) (ats := q.2.1.drop (n + 1)) (row := X) (fun a ha => ((atFit_some (HQ.out.fit a (List.mem_of_mem_drop ha))).2.1).cnt))
    have HW0 := Lib.hid (walkL_len (d := d) (ats := q.2.1.drop n) (row := row) (fun a ha => ((atFit_some (HQ.out.fit a (List.mem_of_mem_drop ha))).2.1).cnt))
    have hpow : ∀ k ≤ 4, 16 ^ k ≤ 65536 := fun k hk => Nat.le_trans (Nat.pow_le_pow_right (by omega) hk) (by decide)
    have HW9 := Lib.hid (fun X => Nat.le_trans (HWL.out X) (hpow _ (by rw [List.length_drop]; omega)))
    have HW8 := Lib.hid (Nat.le_trans HW0.out (hpow _ (by rw [List.length_drop]; omega)))
    have HAT := Lib.hid (fun (w' : World) (h : ∃ y, w' = ext W0 y) => (h3.toExt h).atA hlt0)
    obtain ⟨x, hx⟩ : ∃ x, q.2.1[n] = x := ⟨_, rfl⟩
    have hw9 := look_w HD.out (atFit_get (hx ▸ hfit))
    rw [hx] at hfit hvars hds HAT
    have hT := atFit_some hfit
    have hrb := rowsB_iff.1 hT.2.1.rel
    have hcnt := hT.2.1.cnt
    have har := hT.2.2
    have hoo := atFit_get hfit
    obtain ⟨⟨ar, rows⟩, hr9⟩ : ∃ r, relOf d x = r := ⟨_, rfl⟩
    rw [hr9] at hoo hrb hcnt har hw9
    simp only at har hcnt hrb hw9
    subst har
    have HWK := Lib.hid (show walkL d (q.2.1.drop n) row = rows.flatMap (walk1 d (q.2.1.drop (n + 1)) x.2 row) by rw [hds, walk_cons, hr9])
    have HWR := Lib.hid hw9.2
    have HRW := Lib.hid (fun y (hy : y ∈ rows) => show y.length = x.2.length by have := (hrb.2.2.2.1 y hy).1; omega)
    have HVS := Lib.hid hvars
    obtain ⟨ats, hats⟩ : ∃ l, q.2.1.drop (n + 1) = l := ⟨_, rfl⟩
    have HATS := Lib.hid hats
    rw [hats] at HWK HW9
    obtain ⟨o, ho⟩ : ∃ o, o = some ((x.2.length : Int), rows) := ⟨_, rfl⟩
    rw [← ho] at hoo
    have HO := Lib.hid hoo
    have HOR := Lib.hid ho
    have hbe : ((n : Int) == (q.2.1.length : Int)) = false := by simp; omega
    have hrl2 : row.length ≤ 2000000000 := by have := HNR.out; omega
    have HRL := Lib.hid hrl
    have hnr1 : 1 ≤ nr := by have := HNR.out; omega
    have hnr5 : nr ≤ 5 := by have := HNR.out; omega
    clear hx hfit hds hT hrb hr9 hoo ho hats hpow hvars HWL HW0 hw9 hrl
    go_enter Try.func103, Try.ntmps103
    go_upto_region 1 with fail
    refine wp_name ?_
    intro W hW
    have xW : ∃ y, W = ext w y := by rw [hW.out]; exact (by refine x'z ?_; repeat (with_reducible (first | exact x'a _ _ | exact x'b _ | exact x'c (by assumption) | refine x'd ?_ (by assumption) | refine x'e ?_ _ | refine x'f ?_ _ | refine x'g ?_ | refine x'h ?_ ?_ _ | refine x'i ?_ _ | refine x'j ?_ | refine x'k ?_ _ | refine x'l ?_ _ _ | refine x'm ?_ | assumption | (refine x'n ?_; omega) | omega)))
    have PW : BoxAt W w.heap.size #[.slice A d.length c] := by rw [hW.out]; exact (by repeat (with_reducible (first | assumption | exact BoxAt.new _ _ _ | apply BoxAt.set10 | apply BoxAt.set2 | refine BoxAt.set2' ?_ (by omega) | apply BoxAt.setP0 | apply BoxAt.setP1 | refine BoxAt.setO ?_ (by omega) | refine BoxAt.alloc ?_ _ | refine BoxAt.drew ?_ | refine BoxAt.toExt ?_ (by assumption))))
    have QW : BoxAt W (w.heap.size + 1) #[.int .i64 q.1, .slice B q.2.1.length e, .slice C q.2.2.length g] := by
      rw [hW.out]
      simpa using BoxAt.new (w.alloc (.cells #[.slice A d.length c] 29)) #[.int .i64 q.1, .slice B q.2.1.length e, .slice C q.2.2.length g] 55
    obtain ⟨lq, q0, q1, q2, fq⟩ := box3 QW
    clear hW
    go_upto_region 4 with fail
    refine wp_name ?_
    intro WC hWC
    have xC : ∃ y, WC = ext W y := by rw [hWC.out]; exact (by refine x'z ?_; repeat (with_reducible (first | exact x'a _ _ | exact x'b _ | exact x'c (by assumption) | refine x'd ?_ (by assumption) | refine x'e ?_ _ | refine x'f ?_ _ | refine x'g ?_ | refine x'h ?_ ?_ _ | refine x'i ?_ _ | refine x'j ?_ | refine x'k ?_ _ | refine x'l ?_ _ _ | refine x'm ?_ | assumption | (refine x'n ?_; omega) | omega)))
    have hE0 : SV 48 1 sRow WC (.slice (some ⟨W.heap.size, 0, none⟩) 0 0) [] [W.heap.size] := by rw [hWC.out]; exact SV.empty W
    have xwC := trans_ext xW xC
    have hyw := trans_ext hw0 xwC
    have PC := PW.toExt xC
    have QC := QW.toExt xC
    obtain ⟨lq1, q10, q11, q12, fq1⟩ := box3 QC
    obtain ⟨lp1, p10, fp1⟩ := bx1 PC
    obtain ⟨ba, oa, Av, cv, hBa, hba0, hca0, hca10, hvv0⟩ := HAT.out w hw0
    subst hBa
    have hba := ltW xwC hba0
    have hca := cellW xwC hba0 hca0
    have hca1 := cellW xwC hba0 hca10
    have HCA := Lib.hid hca10
    have hzW := size_of_ext xW
    have hpW := PW.1
    have hqW := QW.1
    have hWC1 : W.heap.size < WC.heap.size := hE0.lt _ (by simp)
    clear hWC lq q0 q1 q2 fq PW QW
    go_cut [10, 11] (CutW o WC)
    case first =>
      go_region_held3 (fun w' => (∀ a : Addr, a.block < WC.heap.size → w'.cell? a = WC.cell? a) ∧ ∃ y, w' = ext WC y) (first | exact heldE (by refine x'z ?_; repeat (with_reducible (first | exact x'a _ _ | exact x'b _ | exact x'c (by assumption) | refine x'd ?_ (by assumption) | refine x'e ?_ _ | refine x'f ?_ _ | refine x'g ?_ | refine x'h ?_ ?_ _ | refine x'i ?_ _ | refine x'j ?_ | refine x'k ?_ _ | refine x'l ?_ _ _ | refine x'm ?_ | assumption | (refine x'n ?_; omega) | omega)))) ((go_at_call 71; refine (specLookupRelation_any HD.out (h1.toExt (trans_ext hyw (by refine x'z ?_; repeat (with_reducible (first | exact x'a _ _ | exact x'b _ | exact x'c (by assumption) | refine x'd ?_ (by assumption) | refine x'e ?_ _ | refine x'f ?_ _ | refine x'g ?_ | refine x'h ?_ ?_ _ | refine x'i ?_ _ | refine x'j ?_ | refine x'k ?_ _ | refine x'l ?_ _ _ | refine x'm ?_ | assumption | (refine x'n ?_; omega) | omega)))))).mono ?_; rw [HO.out]; rintro e w3 ⟨u0, u1, F3, rfl, hx3, hS3, hN3, hF3⟩; obtain ⟨A3, c3, rfl, rfl, hI3⟩ := sRel_form hS3; (first | (have L3 : BoxAt w3 WC.heap.size #[.int .i64 0, .slice none 0 0] := BoxAt.toExt (BoxAt.new WC _ _) hx3; obtain ⟨z1, z2, z3, z4⟩ := bx2 L3) | (have L3 : BoxAt w3 WC.heap.size #[.int .i64 0, .slice none 0 0] := BoxAt.toExt (BoxAt.new WC.drew _ _) hx3; obtain ⟨z1, z2, z3, z4⟩ := bx2 L3) | (have L3 : BoxAt w3 WC.heap.size #[.int .i64 0, .slice none 0 0] := BoxAt.toExt (BoxAt.new WC _ _).drew hx3; obtain ⟨z1, z2, z3, z4⟩ := bx2 L3) | skip)))
      all_goals
        go_wp2_with fail
        go_meet
        have hz3 := size_of_ext hx3
        (first | simp only [World.size_alloc, World.drew] at hz3 hF3 | simp only [World.drew] at hz3 hF3)
        first
          | exact ⟨w3.heap.size, A3, c3, F3, rfl, rfl, BoxAt.new _ _ _, OD.toExt hI3 (alloc_ext _ _), fun x hx => by have := hF3 x hx; omega, by omega, (by refine x'z ?_; repeat (with_reducible (first | exact x'a _ _ | exact x'b _ | exact x'c (by assumption) | refine x'd ?_ (by assumption) | refine x'e ?_ _ | refine x'f ?_ _ | refine x'g ?_ | refine x'h ?_ ?_ _ | refine x'i ?_ _ | refine x'j ?_ | refine x'k ?_ _ | refine x'l ?_ _ _ | refine x'm ?_ | assumption | (refine x'n ?_; omega) | omega)))⟩
          | exact ⟨WC.heap.size, A3, c3, F3, rfl, rfl, (by repeat (with_reducible (first | assumption | exact BoxAt.new _ _ _ | apply BoxAt.set2 | refine BoxAt.set2' ?_ (by omega) | apply BoxAt.setP0 | apply BoxAt.setP1 | refine BoxAt.setO ?_ (by omega) | refine BoxAt.alloc ?_ _ | refine BoxAt.drew ?_ | refine BoxAt.toExt ?_ (by assumption)))), OD.chg (G := [WC.heap.size]) hI3 (by repeat (with_reducible (first | exact Chg.refl _ _ | refine Chg.trans0 ?_ (by assumption) | refine Chg.extS ?_ _ | refine Chg.alloc ?_ _ | refine Chg.drew ?_ | refine Chg.setCell ?_ (.inl (by simp)) _))) (fun x hx hm => by have := hF3 x hx; rw [List.mem_singleton.1 hm] at this; omega), fun x hx => by have := hF3 x hx; omega, by omega, (by refine x'z ?_; repeat (with_reducible (first | exact x'a _ _ | exact x'b _ | exact x'c (by assumption) | refine x'd ?_ (by assumption) | refine x'e ?_ _ | refine x'f ?_ _ | refine x'g ?_ | refine x'h ?_ ?_ _ | refine x'i ?_ _ | refine x'j ?_ | refine x'k ?_ _ | refine x'l ?_ _ _ | refine x'm ?_ | assumption | (refine x'n ?_; omega) | omega)))⟩
    obtain ⟨bX, A3, c3, F3, rfl, rfl, BX, hvX, hF3, hbX, hxX⟩ := hcut
    obtain ⟨w4, rfl⟩ : ∃ W, W = wc := ⟨_, rfl⟩
    obtain rfl := HOR.out
    simp only [Option.getD_some, Option.isSome_some] at BX hvX ⊢
    have P4 := PC.toExt hxX
    have Q4 := QC.toExt hxX
    have X4 := BX
    have xw4 := trans_ext xwC hxX
    have hE4 := hE0.toExt hxX
    have hz4 := size_of_ext xw4
    have hzX := size_of_ext hxX
    have HF3 := Lib.hid hF3
    have HVX := Lib.hid hvX
    clear lq1 q10 q11 q12 fq1 lp1 p10 fp1 PC QC hca hca1 hba hca0 hca10 BX hE0 hF3 hvX
    go_wp2_with fail
    go_loopw [9, 12] (fun v i wr => ∃ (k : Nat) (F : List Nat), i = .int .i64 k ∧ k ≤ rows.length ∧ SV 48 1 sRow wr v ((rows.take k).flatMap (walk1 d ats x.2 row)) F ∧ Hid F.Nodup ∧ Hid (∀ y ∈ F, y = W.heap.size ∨ w4.heap.size ≤ y) ∧ Chg [W.heap.size] w4 wr) (fun _ i _ => rows.length - (intOf i).toNat)
    case atStart => exact ⟨0, _, rfl, by omega, by simpa using hE4, Lib.hid (by simp), Lib.hid (by simp), Chg.refl _ _⟩
    case round =>
      as_aux_lemma =>
      obtain ⟨k, F, rfl, hk, hS, HN, HF, hC⟩ := hrel
      have hxw : ∃ y, wr = ext w y := hC.isExt xw4 (by simp; omega)
      have X5 := X4.chg hC (by simp; omega)
      have P5 := P4.chg hC (by simp; omega)
      have Q5 := Q4.chg hC (by simp; omega)
      obtain ⟨lx5, x50, x51, fx5⟩ := bx2 X5
      by_cases hlt : k < rows.length
      · have hrl := HRW.out _ (List.getElem_mem hlt)
        have HX9 : Hid (x.2.length ≤ 1000000000) := Lib.hid (hrl ▸ HWR.out _ (List.getElem_mem hlt))
        have hst := flat_step (f := walk1 d ats x.2 row) hlt
        have hbd := flat_take_len (f := walk1 d ats x.2 row) (l := rows) (k := k + 1)
        rw [← HWK.out] at hbd
        have hbd2 := Nat.le_trans hbd HW8.out
        have hvT := (vII_get (sII_v _ _ _ (OD.chg (G := [W.heap.size]) HVX.out hC (fun b hb h => by have := HF3.out b hb; rw [List.mem_singleton.1 h] at this; omega)))).2
        obtain ⟨br, orr, A5, c5, rfl, hbr, hcr, hvr⟩ := hvT.atV hlt
        obtain ⟨r, hr9⟩ : ∃ r, rows[k] = r := ⟨_, rfl⟩
        rw [hr9] at hrl hst hcr hvr
        obtain ⟨fl, hfl⟩ : ∃ l, (rows.take k).flatMap (walk1 d ats x.2 row) = l := ⟨_, rfl⟩
        rw [hfl] at hst hS
        have HST := Lib.hid hst
        have HBD := Lib.hid hbd2
        have HS := Lib.hid hS
        have HSlt := Lib.hid hS.lt
        have HLR := Lib.hid hrl
        have HCR := Lib.hid hcr
        have hbr0 := hbr
        have hE3 := SV.empty (α := Int) (te := 3) (size := 1) (E := sI) wr
        have hRr := hR.toExt (trans_ext hxw (alloc_ext wr (.cells #[] 3)))
        have HRN := Lib.hid (show row ≠ [] by intro h; have := HRL.out; rw [h] at this; simp at this; omega)
        clear hr9 hfl hst hbd hbd2 hS hrl hvT hcr
        obtain ⟨wo, rfl⟩ : ∃ wo : World, wo = wr := ⟨_, rfl⟩
        go_wp2_with (at_builtin; refine wpList_appV (E := sI) (V := vI) (es := row) rfl _ _ _ rfl tI rfl hE3 rfl HRL.out.symm hRr vI_s vI_1 (by have := HRL.out; simp; omega) (by omega) ?_; intro v' w' F' hS' hC' hF'; rw [List.nil_append] at hS'; obtain ⟨g, c6, rfl, hgF, _, _⟩ := hS'.block HRN.out; rw [HRL.out] at hS' ⊢)
        have hx6 : ∃ y, w' = ext wo y := hC'.isExt (alloc_ext _ _) (by simp)
        have hgo : wo.heap.size ≤ g := by
          rcases hF' g hgF with h | h
          · simp at h; omega
          · simp at h; omega
        have HFo : Hid (∀ b ∈ F', wo.heap.size ≤ b) := Lib.hid (fun b hb => by
          rcases hF' b hb with h | h
          · simp at h; omega
          · simp at h; omega)
        clear hF' hgF hC' hE3 hRr lx5 x50 x51 fx5 hbr
        go_loopw [14, 15] (fun f i wq => ∃ (j : Nat) (X : List Int) (t : Bool), i = .int .i64 j ∧ j ≤ x.2.length ∧ f = .bool t ∧ X.length = nr ∧ SV 3 1 sI wq (.slice (some ⟨g, 0, none⟩) nr c6) X F' ∧ Hid (fitX row x.2 r = if t = true then fitX X (x.2.drop j) (r.drop j) else none) ∧ Chg [g] w' wq) (fun _ i _ => x.2.length - (intOf i).toNat)
        case atStart => exact ⟨0, row, true, rfl, by omega, rfl, HRL.out, hS', Lib.hid (by simp), Chg.refl _ _⟩
        case round =>
          as_aux_lemma =>
          obtain ⟨j, X, t, rfl, hj, rfl, hXL, hSX, HT, hCq⟩ := hrel
          have HXL := Lib.hid hXL
          have HSX := Lib.hid hSX
          have hyq : ∃ y, wr = ext wo y := hCq.isExt hx6 (by simpa using hgo)
          have hxq := trans_ext hxw hyq
          obtain ⟨lx6, x60, x61, fx6⟩ := bx2 (X5.toExt hyq)
          obtain ⟨lp6, p60, fp6⟩ := bx1 (P5.toExt hyq)
          obtain ⟨lq6, q60, q61, q62, fq6⟩ := box3 (Q5.toExt hyq)
          have hSo := HS.out.toExt hyq
          have hvX := hSX.toView sI_v
          clear hXL hSX
          by_cases hlt2 : j < x.2.length
          · cases t with
            | false =>
              have HK := Lib.hid (show (rows.take (k + 1)).flatMap (walk1 d ats x.2 row) = fl by rw [HST.out, walk1_none (by rw [HT.out]; rfl), List.append_nil])
              go_wp2
              exact ⟨⟨k + 1, F, by go_num, by omega, by rw [HK.out]; exact hSo, HN, HF, hC.trans0 hyq⟩, by simp [intOf]; omega⟩
            | true =>
              obtain ⟨bv, ov, rfl, hbv, hcv⟩ := (hvv0.toExt hxq).atI' (n := j) hlt2
              have hvb := HVS.out _ (List.getElem_mem hlt2)
              have ht := HT.out
              rw [if_pos rfl, fitX_step hlt2 (by rw [HLR.out]; exact hlt2)] at ht
              obtain ⟨bz, oz, rfl, hbz, hcz⟩ := (hvr.toExt hyq).atI' (n := j) (by rw [HLR.out]; exact hlt2)
              have hjl : (j : Int) < (r.length : Int) := by rw [HLR.out]; omega
              rw [← getDl x.2 0 hlt2] at hvb
              obtain ⟨v, hv⟩ : ∃ v, x.2.getD j 0 = v := ⟨_, rfl⟩
              rw [hv] at hcv hvb ht
              obtain ⟨m, rfl⟩ := Int.eq_ofNat_of_zero_le hvb.1
              rw [Int.toNat_natCast] at ht
              have hmn : m < nr := by have := HNR.out; omega
              obtain ⟨_, _, e9, _, hcx⟩ := hvX.atI' (n := m) (by rw [HXL.out]; exact hmn)
              injection e9 with e9
              injection e9 with e9 e10 _
              subst e9 e10
              rw [Nat.zero_add] at hcx
              obtain ⟨z, hz9⟩ : ∃ z, r.getD j 0 = z := ⟨_, rfl⟩
              obtain ⟨u, hu⟩ : ∃ u, X.getD m 0 = u := ⟨_, rfl⟩
              rw [hz9] at hcz ht
              rw [hu] at hcx ht
              have hcr := cellW hyq hbr0 HCR.out
              have hbr := ltW hyq hbr0
              have hcaq := cellW hxq hba0 HCA.out
              have hbaq := ltW hxq hba0
              have HTT := Lib.hid ht
              have hg6 := HSX.out.cell HXL.out (j := 0) (by omega)
              obtain ⟨_, _, hg6⟩ := hg6
              clear hv hvb ht hz9 hu HT
              go_upto_region 14 with fail
              go_cut [14] (fun vb wx => ∃ tt : Bool, vb = .bool tt ∧ Hid (fitX row x.2 r = if tt = true then fitX (X.set m z) (x.2.drop (j + 1)) (r.drop (j + 1)) else none) ∧ ∃ y, wx = ext wr y)
              case first =>
                by_cases hu1 : u = -1
                · have hbe : (u == -1) = true := by simpa using hu1
                  have HT2 := Lib.hid (show fitX row x.2 r = if true = true then fitX (X.set m z) (x.2.drop (j + 1)) (r.drop (j + 1)) else none by rw [HTT.out, if_pos (.inl hu1), if_pos rfl])
                  clear hu1
                  refine wp_region_ext (by kernel_rfl) (by kernel_rfl) ?_
                  repeat (go_big_quiet_step (fail))
                  refine wpQuiet_nil ?_
                  rintro _ ⟨zz, rfl⟩
                  go_wp2_with fail
                  go_meet
                  exact ⟨true, rfl, HT2, zz, rfl⟩
                · have hbe : (u == -1) = false := by simpa using hu1
                  by_cases hu2 : u = z
                  · have hbe2 : (u == z) = true := by simpa using hu2
                    have HT2 := Lib.hid (show fitX row x.2 r = if true = true then fitX (X.set m z) (x.2.drop (j + 1)) (r.drop (j + 1)) else none by rw [HTT.out, if_pos (.inr hu2), if_pos rfl])
                    clear hu1 hu2
                    refine wp_region_ext (by kernel_rfl) (by kernel_rfl) ?_
                    repeat (go_big_quiet_step (fail))
                    refine wpQuiet_nil ?_
                    rintro _ ⟨zz, rfl⟩
                    go_wp2_with fail
                    go_meet
                    exact ⟨true, rfl, HT2, zz, rfl⟩
                  · have hbe2 : (u == z) = false := by simpa using hu2
                    have HT2 := Lib.hid (show fitX row x.2 r = if false = true then fitX (X.set m z) (x.2.drop (j + 1)) (r.drop (j + 1)) else none by rw [HTT.out, if_neg (by rintro (h | h); exact hu1 h; exact hu2 h), if_neg (by simp)])
                    clear hu1 hu2
                    refine wp_region_ext (by kernel_rfl) (by kernel_rfl) ?_
                    repeat (go_big_quiet_step (fail))
                    refine wpQuiet_nil ?_
                    rintro _ ⟨zz, rfl⟩
                    go_wp2_with fail
                    go_meet
                    exact ⟨false, rfl, HT2, zz, rfl⟩
              obtain ⟨tt, rfl, HT2, hxz⟩ := hcut
              obtain ⟨wz, rfl⟩ : ∃ W, W = wc := ⟨_, rfl⟩
              have hyz := trans_ext hyq hxz
              obtain ⟨lx7, x70, x71, fx7⟩ := bx2 (X5.toExt hyz)
              have hc7 := cellW hyz hbr0 HCR.out
              have hb7 := ltW hyz hbr0
              have hc8 := cellW hxz hbz hcz
              have hb8 := ltW hxz hbz
              have hS7 := HSX.out.toExt hxz
              have hcell := hS7.cell HXL.out (j := m) (by omega)
              obtain ⟨⟨u9, hu9⟩, hf9, hg9⟩ := hcell
              obtain ⟨s1, s2⟩ := hS7.set1 HXL.out (k := m) (by omega) (u := .int .i64 z) (d := z) (fun _ => ⟨rfl, rfl⟩)
              have HS1 := Lib.hid s1
              have HC1 := Lib.hid ((hCq.trans0 hxz).trans s2 (fun y hy => .inl hy))
              have hjb : x.2.length ≤ 1000000000 := HX9.out
              clear s1 s2 hS7 lx6 x60 x61 fx6 lp6 p60 fp6 lq6 q60 q61 q62 fq6 hcx hcr hbr hcaq hbaq hg6
              go_wp2_with fail
              exact ⟨⟨j + 1, X.set m z, tt, by go_num, by omega, rfl, by rw [List.length_set]; exact HXL.out, HS1.out, HT2, HC1.out⟩, by simp [intOf]; omega⟩
          · cases t with
            | false =>
              have HK := Lib.hid (show (rows.take (k + 1)).flatMap (walk1 d ats x.2 row) = fl by rw [HST.out, walk1_none (by rw [HT.out]; rfl), List.append_nil])
              go_wp2
              exact ⟨⟨k + 1, F, by go_num, by omega, by rw [HK.out]; exact hSo, HN, HF, hC.trans0 hyq⟩, by simp [intOf]; omega⟩
            | true =>
              have hfx : fitX row x.2 r = some X := by rw [HT.out, if_pos rfl, fitX_end (by omega)]
              obtain ⟨l9, hl9⟩ : ∃ l, walkL d ats X = l := ⟨_, rfl⟩
              have hk9 : (rows.take (k + 1)).flatMap (walk1 d ats x.2 row) = fl ++ l9 := by rw [HST.out, walk1_some hfx, hl9]
              have hlen : fl.length + l9.length ≤ 2000000000 := by have := HBD.out; rw [hk9, List.length_append] at this; omega
              have HK := Lib.hid hk9
              have HL9 := Lib.hid (show walkL d (q.2.1.drop (n + 1)) X = l9 by rw [HATS.out]; exact hl9)
              have hw0q := trans_ext hw0 hxq
              have HCC := Lib.hid (hC.trans0 hyq)
              have hFw : Hid (∀ b ∈ F, b < wr.heap.size) := Lib.hid (fun b hb => Nat.lt_of_lt_of_le (HSlt.out b hb) (size_of_ext hyq))
              have hzq := size_of_ext hyq
              have hzC := hC.size
              clear hfx hl9 hk9 HT
              go_wp2_with (first
                | (go_at_call 103; refine (HIH.out (n + 1) _ c6 X wr (by omega) hw0q HXL.out hvX).mono ?_; rintro e w9 ⟨A9, c9, F9, rfl, hx9, hS9, hN9, hF9⟩; rw [HL9.out] at hS9 ⊢; obtain ⟨G9, hL9, hN99, hG9⟩ := hS9.whole hN9; have hN3 := nodup_more HN.out hN99 hFw.out (fun b hb => hF9 b (hG9 b hb)))
                | (at_builtin; refine wpList_appP (E := sRow) rfl _ _ _ rfl tIIr rfl (hSo.toExt hx9) HN.out rfl rfl hL9 hN3 hlen (by omega) ?_; intro v2 w2 F2 hS2 hC2 hN2 hF2))
              refine ⟨⟨k + 1, F2, by go_num, by omega, by rw [HK.out]; exact hS2, Lib.hid hN2, Lib.hid (fun b hb => ?_), (HCC.out.trans0 hx9).trans hC2 (fun b hb => ?_)⟩, by simp [intOf]; omega⟩
              · rcases hF2 b hb with h | h | h
                · exact HF.out b h
                · have := hF9 b (hG9 b h); omega
                · have := size_of_ext hx9; omega
              · rcases HF.out b hb with h | h
                · exact .inl (by simp [h])
                · exact .inr h
      · obtain rfl : k = rows.length := by omega
        rw [List.take_of_length_le (Nat.le_refl _)] at hS
        go_wp2
        go_ret
        refine walkP_mk HWK.out rfl hxw hS HN.out (fun b hb => ?_)
        rcases HF.out b hb with h | h
        · omega
        · omega
end Go.Proofs.Ytfigcfajkilhiaa

/- The rows of an atom: what the loops over one row come to. No program in it. -/
namespace Go.Proofs.Ytfigcfajkilhiaa
open Go.RowKit

def fitI (xs row : List Int) (k : Nat) : Bool := (List.range k).all fun j => decide (valAt xs row (xs.getD j 0) = row.getD j 0)
def fitS (vars xs row : List Int) (k : Nat) : Bool := (List.range k).all fun j => decide (xs.getD j 0 ∈ vars) && decide (valAt xs row (xs.getD j 0) = row.getD j 0)
theorem fitI_step {xs row : List Int} {k : Nat} : fitI xs row (k + 1) = (fitI xs row k && decide (valAt xs row (xs.getD k 0) = row.getD k 0)) := by
  unfold fitI
  rw [List.range_succ, List.all_append]
  simp
theorem fitS_step {vars xs row : List Int} {k : Nat} : fitS vars xs row (k + 1) = (fitS vars xs row k && (decide (xs.getD k 0 ∈ vars) && decide (valAt xs row (xs.getD k 0) = row.getD k 0))) := by
  unfold fitS
  rw [List.range_succ, List.all_append]
  simp
theorem fitI_all {xs row : List Int} (hl : row.length = xs.length) : fitI xs row xs.length = rowFit xs row := by
  rw [Bool.eq_iff_iff]
  unfold fitI rowFit
  rw [List.all_eq_true, decide_eq_true_eq]
  constructor
  · intro h
    apply List.ext_getElem
    · simp [hl]
    · intro i h1 h2
      have hi : i < xs.length := by simpa using h1
      have := h i (List.mem_range.2 hi)
      rw [decide_eq_true_eq, getDl _ _ hi, getDl _ _ h2] at this
      rw [List.getElem_map]
      exact this
  · intro h j hj
    have hj := List.mem_range.1 hj
    rw [decide_eq_true_eq, getDl _ _ hj, getDl row _ (show j < row.length by omega)]
    have : (xs.map (valAt xs row)).getD j 0 = row.getD j 0 := by rw [h]
    rw [getDl _ _ (show j < (xs.map (valAt xs row)).length by simpa using hj), List.getElem_map, getDl row _ (show j < row.length by omega)] at this
    exact this
theorem fitS_all {vars xs row : List Int} (hl : row.length = xs.length) : fitS vars xs row xs.length = (rowFit xs row && xs.all fun v => decide (v ∈ vars)) := by
  rw [← fitI_all hl, Bool.eq_iff_iff]
  unfold fitI fitS
  simp only [List.all_eq_true, Bool.and_eq_true, decide_eq_true_eq]
  constructor
  · intro h
    refine ⟨fun j hj => (h j hj).2, fun v hv => ?_⟩
    obtain ⟨i, hi, rfl⟩ := List.getElem_of_mem hv
    have := (h i (List.mem_range.2 hi)).1
    rwa [getDl _ _ hi] at this
  · rintro ⟨h1, h2⟩ j hj
    have hj' := List.mem_range.1 hj
    exact ⟨by rw [getDl _ _ hj']; exact h2 _ (List.getElem_mem hj'), h1 j hj⟩
/-- the values of the variables met so far -/
def VOk (xs row L : List Int) (k : Nat) : Prop := L.length = 5 ∧ (fitI xs row k = true → ∀ j, j < k → j < xs.length → L.getD (xs.getD j 0).toNat 0 = valAt xs row (xs.getD j 0))
theorem VOk.step {xs row L : List Int} {k : Nat} (h : VOk xs row L k) (hb : ∀ v ∈ xs, 0 ≤ v ∧ v ≤ 4) (hk : k < xs.length) : VOk xs row (L.set (xs.getD k 0).toNat (row.getD k 0)) (k + 1) := by
  obtain ⟨h1, h2⟩ := h
  refine ⟨by simpa using h1, fun hf j hj hjl => ?_⟩
  rw [fitI_step, Bool.and_eq_true, decide_eq_true_eq] at hf
  have bk := hb _ (List.getElem_mem hk)
  have bj := hb _ (List.getElem_mem hjl)
  rw [getDl _ _ hk] at hf ⊢
  rw [getDl _ _ hjl]
  by_cases e : xs[k].toNat = xs[j].toNat
  · have e2 : xs[j] = xs[k] := by omega
    rw [e2, getD_set_self (by omega)]
    exact hf.2.symm
  · rw [getD_set_ne e]
    have hjk : j < k := by
      rcases Nat.lt_or_eq_of_le (Nat.le_of_lt_succ hj) with k1 | k1
      · exact k1
      · subst k1; exact absurd rfl e
    have := h2 hf.1 j hjk hjl
    rwa [getDl _ _ hjl] at this
theorem VOk.done {xs row L vars : List Int} (h : VOk xs row L xs.length) (hf : fitI xs row xs.length = true) (hv : ∀ v ∈ vars, v ∈ xs) : pickL L vars = vars.map (valAt xs row) := by
  unfold pickL
  refine List.map_congr_left fun v hvm => ?_
  obtain ⟨i, hi, rfl⟩ := List.getElem_of_mem (hv v hvm)
  have := h.2 hf i hi hi
  rwa [getDl _ _ hi] at this
/-- the rows that fit, as rows over the variables -/
def fitR (xs : List Int) (rows : List (List Int)) : List (List Int) := (rows.filter (rowFit xs)).map fun row => (avars 5 0 xs).map (valAt xs row)
theorem fitR_step {xs : List Int} {rows : List (List Int)} {k : Nat} (h : k < rows.length) : fitR xs (rows.take (k + 1)) = fitR xs (rows.take k) ++ (if rowFit xs rows[k] = true then [(avars 5 0 xs).map (valAt xs rows[k])] else []) := by
  unfold fitR
  rw [List.take_succ_eq_append_getElem h, List.filter_append, List.filter_cons, List.filter_nil, List.map_append]
  by_cases h1 : rowFit xs rows[k] = true <;> simp [h1]
theorem fitR_len {xs : List Int} {rows : List (List Int)} {k : Nat} : (fitR xs (rows.take k)).length ≤ k := by
  unfold fitR
  rw [List.length_map]
  exact Nat.le_trans (List.length_filter_le _ _) (by simp; omega)
theorem fitR_el {xs : List Int} {rows : List (List Int)} : ∀ x ∈ fitR xs rows, x.length ≤ 5 := fun x hx => by
  unfold fitR at hx
  obtain ⟨r, _, rfl⟩ := List.mem_map.1 hx
  rw [List.length_map]
  exact avars_length 5 0 xs
theorem atomBd_yes {d : Dbd} {a : At} (h1 : atFit d a = true) (h2 : ∀ v ∈ a.2, 0 ≤ v ∧ v ≤ 4) : atomBd d a = (((avars 5 0 a.2).length : Int), sortR (fitR a.2 (relOf d a).2)) := by
  unfold atomBd fitR
  rw [if_pos ⟨h1, h2⟩]
theorem atomBd_no {d : Dbd} {a : At} (h : ¬ (atFit d a = true ∧ ∀ v ∈ a.2, 0 ≤ v ∧ v ≤ 4)) : atomBd d a = (((avars 5 0 a.2).length : Int), []) := by
  unfold atomBd
  rw [if_neg h]
/-- the reference's rows: none where a variable is out of range -/
def fitRS (xs : List Int) (rows : List (List Int)) : List (List Int) := (rows.filter fun row => rowFit xs row && xs.all fun v => decide (v ∈ avars 5 0 xs)).map fun row => (avars 5 0 xs).map (valAt xs row)
theorem fitRS_step {xs : List Int} {rows : List (List Int)} {k : Nat} (h : k < rows.length) : fitRS xs (rows.take (k + 1)) = fitRS xs (rows.take k) ++ (if (rowFit xs rows[k] && xs.all fun v => decide (v ∈ avars 5 0 xs)) = true then [(avars 5 0 xs).map (valAt xs rows[k])] else []) := by
  unfold fitRS
  rw [List.take_succ_eq_append_getElem h, List.filter_append, List.filter_cons, List.filter_nil, List.map_append]
  by_cases h1 : (rowFit xs rows[k] && xs.all fun v => decide (v ∈ avars 5 0 xs)) = true <;> simp [h1]
theorem fitRS_len {xs : List Int} {rows : List (List Int)} {k : Nat} : (fitRS xs (rows.take k)).length ≤ k := by
  unfold fitRS
  rw [List.length_map]
  exact Nat.le_trans (List.length_filter_le _ _) (by simp; omega)
theorem fitRS_el {xs : List Int} {rows : List (List Int)} : ∀ x ∈ fitRS xs rows, x.length = (avars 5 0 xs).length := fun x hx => by
  unfold fitRS at hx
  obtain ⟨r, _, rfl⟩ := List.mem_map.1 hx
  rw [List.length_map]
theorem fitRS_eq {d : Dbd} {a : At} (h : atFit d a = true) : newR ((avars 5 0 a.2).length : Int) (fitRS a.2 (relOf d a).2) = some (atomBd d a) := by
  obtain ⟨_, hT, hl⟩ := atFit_some h
  have hcnt := hT.cnt
  have h5 := avars_length 5 0 a.2
  by_cases hc : ∀ v ∈ a.2, 0 ≤ v ∧ v ≤ 4
  · have e : fitRS a.2 (relOf d a).2 = fitR a.2 (relOf d a).2 := by
      unfold fitRS fitR
      have : (a.2.all fun v => decide (v ∈ avars 5 0 a.2)) = true := by
        rw [List.all_eq_true]
        intro v hv
        rw [decide_eq_true_eq, mem_av5 hc]
        exact hv
      simp only [this, Bool.and_true]
    rw [e, atomBd_yes h hc]
    have hok := atomBd_ok (d := d) (a := a)
    unfold atomVR at hok
    rw [atomBd_yes h hc] at hok
    refine newR_some (rowsIn_iff.2 fun r hr => ⟨?_, hok.rv r (mem_sortR.2 hr)⟩) (by omega) (by omega) hok.cnt
    have := hok.rl r (mem_sortR.2 hr)
    simp only at this
    rw [this]
  · have e : fitRS a.2 (relOf d a).2 = [] := by
      unfold fitRS
      have : (a.2.all fun v => decide (v ∈ avars 5 0 a.2)) = false := by
        rw [Bool.eq_false_iff]
        intro h9
        rw [List.all_eq_true] at h9
        refine hc fun v hv => ?_
        have := (mem_avars 5 0 _ _).1 (of_decide_eq_true (h9 v hv))
        omega
      simp only [this, Bool.and_false]
      simp
    rw [e, atomBd_no (fun k => hc k.2)]
    exact newR_some (rowsIn_iff.2 (by simp)) (by omega) (by omega) (by simp [sortR])
end Go.Proofs.Ytfigcfajkilhiaa
