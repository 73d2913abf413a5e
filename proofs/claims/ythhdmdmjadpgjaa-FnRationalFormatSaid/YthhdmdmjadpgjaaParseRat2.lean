/- Texts read as rational numbers, one or a list of them: the reference's way, and lists both ways. -/
import Derived.Test.YthhdmdmjadpgjaaParseRat
import Derived.Test.YthhdmdmjadpgjaaRats
namespace Go.Proofs.Ythhdmdmjadpgjaa
open Go.RowKit

theorem slB_step {s : ByteArray} {k : Nat} (h : k < s.size) (hc : s[k] ≠ 47) : k + sl ((bl s).drop k) = k + 1 + sl ((bl s).drop (k + 1)) := sl_step (by rw [bl_length]; exact h) (by rw [bl_get s h]; exact hc)
theorem slB_hit {s : ByteArray} {k : Nat} (h : k < s.size) (hc : s[k] = 47) : k + sl ((bl s).drop k) = k := sl_hit (by rw [bl_length]; exact h) (by rw [bl_get s h]; exact hc)
theorem slB_end {s : ByteArray} {k : Nat} (h : ¬ k < s.size) : k + sl ((bl s).drop k) = k := sl_end (by rw [bl_length]; exact h)
theorem u8_bnet {a b : UInt8} (h : a = b) : ((a.toNat : Int) != (b.toNat : Int)) = false := by rw [bne, u8_eq h]; rfl
theorem u8_bnef {a b : UInt8} (h : a ≠ b) : ((a.toNat : Int) != (b.toNat : Int)) = true := by rw [bne, u8_ne h]; rfl
set_option maxHeartbeats 1000000 in
theorem specParseRational_any {s : ByteArray} {w : World} (hs : s.size ≤ 1000000000) :
    Calls Try.prog 9 #[.string s] w fun e w' => e = .returned (.tuple #[.agg #[.int .i64 ((pRat s).getD (0, 0)).1, .int .i64 ((pRat s).getD (0, 0)).2], .bool (pRat s).isSome]) ∧ ∃ y, w' = ext w y := by
  rw [← pRs_eq]
  go_enter Try.func9, Try.ntmps9
  go_wp2
  go_loop [4] (fun i => ∃ k : Nat, i = .int .i64 k ∧ k ≤ s.size ∧ k + sl ((bl s).drop k) = sl (bl s)) (fun i => s.size - (intOf i).toNat)
  case atStart => exact ⟨0, rfl, by omega, by simp⟩
  case round =>
    obtain ⟨k, rfl, hk, hj⟩ := hrel
    by_cases hlt : k < s.size
    · by_cases hc : s[k] = 47
      · have e := slB_hit hlt hc
        rw [hj] at e
        have hq := u8_bnet hc
        rw [show ((47 : UInt8).toNat : Int) = 47 from rfl] at hq
        obtain ⟨p, hp⟩ : ∃ p, s.extract 0 k = p := ⟨_, rfl⟩
        obtain ⟨q, hq2⟩ : ∃ q, s.extract (k + 1) s.size = q := ⟨_, rfl⟩
        have hps : p.size ≤ 1000000000 := by rw [← hp, ByteArray.size_extract]; omega
        have hqs : q.size ≤ 1000000000 := by rw [← hq2, ByteArray.size_extract]; omega
        obtain ⟨x, hx⟩ : ∃ x, l2N (bl p) = x := ⟨_, rfl⟩
        obtain ⟨z, hz⟩ : ∃ x, l2N (bl q) = x := ⟨_, rfl⟩
        obtain ⟨t, ht⟩ : ∃ t, ratText (x, z) = t := ⟨_, rfl⟩
        have hne := isEmpty_no (s := s) (by omega)
        have hfin : pRs s = fin (x, z) s := by unfold pRs; rw [e, if_pos hlt, hp, hq2, hx, hz]
        have HT := Lib.hid ht
        have H0 := Lib.hid hx
        have H1 := Lib.hid hz
        have HF := Lib.hid hfin
        by_cases hts : t = s
        · have q1 := str_beqt hts
          have q2 := str_bnet hts
          have HR := Lib.hid (show pRs s = some (x, z) by rw [hfin]; unfold fin; rw [if_pos ⟨ht.trans hts, by omega⟩])
          clear hj hc e hx hz ht hfin hts
          go_wp2_with (first | (go_at_call 30; refine (l2Num_any (by assumption)).mono ?_; rintro e w2 ⟨rfl, hx2⟩; rw [H0.out]; have B2 : BoxAt w2 w.heap.size #[.int .i64 0, .int .i64 0] := (by repeat (with_reducible (first | assumption | exact BoxAt.new _ _ _ | apply BoxAt.set2 | refine BoxAt.set2' ?_ (by omega) | apply BoxAt.setP0 | apply BoxAt.setP1 | refine BoxAt.setO ?_ (by omega) | refine BoxAt.alloc ?_ _ | refine BoxAt.drew ?_ | refine BoxAt.toExt ?_ (by assumption)))); have R2 : BoxAt w2 (w.heap.size + 1) #[.int .i64 0, .int .i64 1] := (by have h := (BoxAt.new (w.alloc (.cells #[.int .i64 0, .int .i64 0] 25)) #[.int .i64 0, .int .i64 1] 25).toExt hx2; simpa using h); obtain ⟨_, l2, k2, k2', f2⟩ := box2 B2; obtain ⟨_, m2, n2, n2', g2⟩ := box2 R2) | (go_at_call 30; refine (l2Num_any (by assumption)).mono ?_; rintro e w3 ⟨rfl, hx3⟩; rw [H1.out]; have B3 : BoxAt w3 w.heap.size #[.int .i64 0, .int .i64 0] := (by repeat (with_reducible (first | assumption | exact BoxAt.new _ _ _ | apply BoxAt.set2 | refine BoxAt.set2' ?_ (by omega) | apply BoxAt.setP0 | apply BoxAt.setP1 | refine BoxAt.setO ?_ (by omega) | refine BoxAt.alloc ?_ _ | refine BoxAt.drew ?_ | refine BoxAt.toExt ?_ (by assumption)))); have R3 : BoxAt w3 (w.heap.size + 1) #[.int .i64 x, .int .i64 1] := (by repeat (with_reducible (first | assumption | exact BoxAt.new _ _ _ | apply BoxAt.set2 | refine BoxAt.set2' ?_ (by omega) | apply BoxAt.setP0 | apply BoxAt.setP1 | refine BoxAt.setO ?_ (by omega) | refine BoxAt.alloc ?_ _ | refine BoxAt.drew ?_ | refine BoxAt.toExt ?_ (by assumption)))); obtain ⟨_, l3, k3, k3', f3⟩ := box2 B3; obtain ⟨_, m3, n3, n3', g3⟩ := box2 R3) | (go_at_call 25; refine specFormatRational_any.mono ?_; rintro e w4 ⟨rfl, hx4⟩; rw [HT.out]; have B4 : BoxAt w4 w.heap.size #[.int .i64 0, .int .i64 0] := (by repeat (with_reducible (first | assumption | exact BoxAt.new _ _ _ | apply BoxAt.set2 | refine BoxAt.set2' ?_ (by omega) | apply BoxAt.setP0 | apply BoxAt.setP1 | refine BoxAt.setO ?_ (by omega) | refine BoxAt.alloc ?_ _ | refine BoxAt.drew ?_ | refine BoxAt.toExt ?_ (by assumption)))); have R4 : BoxAt w4 (w.heap.size + 1) #[.int .i64 x, .int .i64 z] := (by repeat (with_reducible (first | assumption | exact BoxAt.new _ _ _ | apply BoxAt.set2 | refine BoxAt.set2' ?_ (by omega) | apply BoxAt.setP0 | apply BoxAt.setP1 | refine BoxAt.setO ?_ (by omega) | refine BoxAt.alloc ?_ _ | refine BoxAt.drew ?_ | refine BoxAt.toExt ?_ (by assumption)))); obtain ⟨_, l4, k4, k4', f4⟩ := box2 B4; obtain ⟨_, m4, n4, n4', g4⟩ := box2 R4))
          exact bodyPost_ret (v := .tuple #[.agg #[.int .i64 x, .int .i64 z], .bool true]) (by simp [results, Try.results9, go_sem, *]) rfl ⟨by rw [HR.out]; rfl, (by refine Chg.isExt (F := []) ?_ (refl_ext _) (by simp); repeat (with_reducible (first | exact Chg.refl _ _ | exact Nat.le_refl _ | exact Chg.ofExt (by assumption) | refine Chg.trans0 ?_ (by assumption) | refine Chg.extS ?_ _ | refine Chg.alloc ?_ _ | refine Chg.drew ?_ | refine Chg.setCellE ?_ ?_ _ | refine le_addk ?_ _ | refine le_ext ?_ | refine le_alloc ?_ _ | refine le_setC ?_ _ _ | refine le_drew ?_ | assumption | (refine Nat.le_of_lt ?_; omega) | omega)))⟩
        · have q1 := str_beqf hts
          have q2 := str_bnef hts
          have HR := Lib.hid (show pRs s = none by rw [hfin]; unfold fin; rw [if_neg (fun h => hts (ht.symm.trans h.1))])
          clear hj hc e hx hz ht hfin hts
          go_wp2_with (first | (go_at_call 30; refine (l2Num_any (by assumption)).mono ?_; rintro e w2 ⟨rfl, hx2⟩; rw [H0.out]; have B2 : BoxAt w2 w.heap.size #[.int .i64 0, .int .i64 0] := (by repeat (with_reducible (first | assumption | exact BoxAt.new _ _ _ | apply BoxAt.set2 | refine BoxAt.set2' ?_ (by omega) | apply BoxAt.setP0 | apply BoxAt.setP1 | refine BoxAt.setO ?_ (by omega) | refine BoxAt.alloc ?_ _ | refine BoxAt.drew ?_ | refine BoxAt.toExt ?_ (by assumption)))); have R2 : BoxAt w2 (w.heap.size + 1) #[.int .i64 0, .int .i64 1] := (by have h := (BoxAt.new (w.alloc (.cells #[.int .i64 0, .int .i64 0] 25)) #[.int .i64 0, .int .i64 1] 25).toExt hx2; simpa using h); obtain ⟨_, l2, k2, k2', f2⟩ := box2 B2; obtain ⟨_, m2, n2, n2', g2⟩ := box2 R2) | (go_at_call 30; refine (l2Num_any (by assumption)).mono ?_; rintro e w3 ⟨rfl, hx3⟩; rw [H1.out]; have B3 : BoxAt w3 w.heap.size #[.int .i64 0, .int .i64 0] := (by repeat (with_reducible (first | assumption | exact BoxAt.new _ _ _ | apply BoxAt.set2 | refine BoxAt.set2' ?_ (by omega) | apply BoxAt.setP0 | apply BoxAt.setP1 | refine BoxAt.setO ?_ (by omega) | refine BoxAt.alloc ?_ _ | refine BoxAt.drew ?_ | refine BoxAt.toExt ?_ (by assumption)))); have R3 : BoxAt w3 (w.heap.size + 1) #[.int .i64 x, .int .i64 1] := (by repeat (with_reducible (first | assumption | exact BoxAt.new _ _ _ | apply BoxAt.set2 | refine BoxAt.set2' ?_ (by omega) | apply BoxAt.setP0 | apply BoxAt.setP1 | refine BoxAt.setO ?_ (by omega) | refine BoxAt.alloc ?_ _ | refine BoxAt.drew ?_ | refine BoxAt.toExt ?_ (by assumption)))); obtain ⟨_, l3, k3, k3', f3⟩ := box2 B3; obtain ⟨_, m3, n3, n3', g3⟩ := box2 R3) | (go_at_call 25; refine specFormatRational_any.mono ?_; rintro e w4 ⟨rfl, hx4⟩; rw [HT.out]; have B4 : BoxAt w4 w.heap.size #[.int .i64 0, .int .i64 0] := (by repeat (with_reducible (first | assumption | exact BoxAt.new _ _ _ | apply BoxAt.set2 | refine BoxAt.set2' ?_ (by omega) | apply BoxAt.setP0 | apply BoxAt.setP1 | refine BoxAt.setO ?_ (by omega) | refine BoxAt.alloc ?_ _ | refine BoxAt.drew ?_ | refine BoxAt.toExt ?_ (by assumption)))); have R4 : BoxAt w4 (w.heap.size + 1) #[.int .i64 x, .int .i64 z] := (by repeat (with_reducible (first | assumption | exact BoxAt.new _ _ _ | apply BoxAt.set2 | refine BoxAt.set2' ?_ (by omega) | apply BoxAt.setP0 | apply BoxAt.setP1 | refine BoxAt.setO ?_ (by omega) | refine BoxAt.alloc ?_ _ | refine BoxAt.drew ?_ | refine BoxAt.toExt ?_ (by assumption)))); obtain ⟨_, l4, k4, k4', f4⟩ := box2 B4; obtain ⟨_, m4, n4, n4', g4⟩ := box2 R4))
          exact bodyPost_ret (v := .tuple #[.agg #[.int .i64 0, .int .i64 0], .bool false]) (by simp [results, Try.results9, go_sem, *]) rfl ⟨by rw [HR.out]; rfl, (by refine Chg.isExt (F := []) ?_ (refl_ext _) (by simp); repeat (with_reducible (first | exact Chg.refl _ _ | exact Nat.le_refl _ | exact Chg.ofExt (by assumption) | refine Chg.trans0 ?_ (by assumption) | refine Chg.extS ?_ _ | refine Chg.alloc ?_ _ | refine Chg.drew ?_ | refine Chg.setCellE ?_ ?_ _ | refine le_addk ?_ _ | refine le_ext ?_ | refine le_alloc ?_ _ | refine le_setC ?_ _ _ | refine le_drew ?_ | assumption | (refine Nat.le_of_lt ?_; omega) | omega)))⟩
      · have e := slB_step hlt hc
        rw [hj] at e
        have hq := u8_bnef hc
        rw [show ((47 : UInt8).toNat : Int) = 47 from rfl] at hq
        have He := Lib.hid e.symm
        clear hj hc e
        go_wp2
        exact ⟨⟨k + 1, by go_num, by omega, He.out⟩, by simp [intOf]; omega⟩
    · have e := slB_end hlt
      rw [hj] at e
      obtain ⟨p, hp⟩ : ∃ p, s.extract 0 k = p := ⟨_, rfl⟩
      have hps : p.size ≤ 1000000000 := by rw [← hp, ByteArray.size_extract]; omega
      obtain ⟨x, hx⟩ : ∃ x, l2N (bl p) = x := ⟨_, rfl⟩
      obtain ⟨t, ht⟩ : ∃ t, ratText (x, 1) = t := ⟨_, rfl⟩
      have hfin : pRs s = fin (x, 1) s := by unfold pRs; rw [e, if_neg hlt, hp, hx]
      have HT := Lib.hid ht
      have H0 := Lib.hid hx
      by_cases hts : t = s
      · have q1 := str_beqt hts
        have q2 := str_bnet hts
        by_cases hz0 : s.size = 0
        · have hne := isEmpty_yes hz0
          have HR := Lib.hid (show pRs s = none by rw [hfin]; unfold fin; rw [if_neg (fun h => h.2 hz0)])
          clear hj e hx ht hfin hts hz0
          go_wp2_with (first | (go_at_call 30; refine (l2Num_any (by assumption)).mono ?_; rintro e w2 ⟨rfl, hx2⟩; rw [H0.out]; have B2 : BoxAt w2 w.heap.size #[.int .i64 0, .int .i64 0] := (by repeat (with_reducible (first | assumption | exact BoxAt.new _ _ _ | apply BoxAt.set2 | refine BoxAt.set2' ?_ (by omega) | apply BoxAt.setP0 | apply BoxAt.setP1 | refine BoxAt.setO ?_ (by omega) | refine BoxAt.alloc ?_ _ | refine BoxAt.drew ?_ | refine BoxAt.toExt ?_ (by assumption)))); have R2 : BoxAt w2 (w.heap.size + 1) #[.int .i64 0, .int .i64 1] := (by have h := (BoxAt.new (w.alloc (.cells #[.int .i64 0, .int .i64 0] 25)) #[.int .i64 0, .int .i64 1] 25).toExt hx2; simpa using h); obtain ⟨_, l2, k2, k2', f2⟩ := box2 B2; obtain ⟨_, m2, n2, n2', g2⟩ := box2 R2) | (go_at_call 25; refine specFormatRational_any.mono ?_; rintro e w4 ⟨rfl, hx4⟩; rw [HT.out]; have B4 : BoxAt w4 w.heap.size #[.int .i64 0, .int .i64 0] := (by repeat (with_reducible (first | assumption | exact BoxAt.new _ _ _ | apply BoxAt.set2 | refine BoxAt.set2' ?_ (by omega) | apply BoxAt.setP0 | apply BoxAt.setP1 | refine BoxAt.setO ?_ (by omega) | refine BoxAt.alloc ?_ _ | refine BoxAt.drew ?_ | refine BoxAt.toExt ?_ (by assumption)))); have R4 : BoxAt w4 (w.heap.size + 1) #[.int .i64 x, .int .i64 1] := (by repeat (with_reducible (first | assumption | exact BoxAt.new _ _ _ | apply BoxAt.set2 | refine BoxAt.set2' ?_ (by omega) | apply BoxAt.setP0 | apply BoxAt.setP1 | refine BoxAt.setO ?_ (by omega) | refine BoxAt.alloc ?_ _ | refine BoxAt.drew ?_ | refine BoxAt.toExt ?_ (by assumption)))); obtain ⟨_, l4, k4, k4', f4⟩ := box2 B4; obtain ⟨_, m4, n4, n4', g4⟩ := box2 R4))
          exact bodyPost_ret (v := .tuple #[.agg #[.int .i64 0, .int .i64 0], .bool false]) (by simp [results, Try.results9, go_sem, *]) rfl ⟨by rw [HR.out]; rfl, (by refine Chg.isExt (F := []) ?_ (refl_ext _) (by simp); repeat (with_reducible (first | exact Chg.refl _ _ | exact Nat.le_refl _ | exact Chg.ofExt (by assumption) | refine Chg.trans0 ?_ (by assumption) | refine Chg.extS ?_ _ | refine Chg.alloc ?_ _ | refine Chg.drew ?_ | refine Chg.setCellE ?_ ?_ _ | refine le_addk ?_ _ | refine le_ext ?_ | refine le_alloc ?_ _ | refine le_setC ?_ _ _ | refine le_drew ?_ | assumption | (refine Nat.le_of_lt ?_; omega) | omega)))⟩
        · have hne := isEmpty_no (s := s) (by omega)
          have HR := Lib.hid (show pRs s = some (x, 1) by rw [hfin]; unfold fin; rw [if_pos ⟨ht.trans hts, by omega⟩])
          clear hj e hx ht hfin hts
          go_wp2_with (first | (go_at_call 30; refine (l2Num_any (by assumption)).mono ?_; rintro e w2 ⟨rfl, hx2⟩; rw [H0.out]; have B2 : BoxAt w2 w.heap.size #[.int .i64 0, .int .i64 0] := (by repeat (with_reducible (first | assumption | exact BoxAt.new _ _ _ | apply BoxAt.set2 | refine BoxAt.set2' ?_ (by omega) | apply BoxAt.setP0 | apply BoxAt.setP1 | refine BoxAt.setO ?_ (by omega) | refine BoxAt.alloc ?_ _ | refine BoxAt.drew ?_ | refine BoxAt.toExt ?_ (by assumption)))); have R2 : BoxAt w2 (w.heap.size + 1) #[.int .i64 0, .int .i64 1] := (by have h := (BoxAt.new (w.alloc (.cells #[.int .i64 0, .int .i64 0] 25)) #[.int .i64 0, .int .i64 1] 25).toExt hx2; simpa using h); obtain ⟨_, l2, k2, k2', f2⟩ := box2 B2; obtain ⟨_, m2, n2, n2', g2⟩ := box2 R2) | (go_at_call 25; refine specFormatRational_any.mono ?_; rintro e w4 ⟨rfl, hx4⟩; rw [HT.out]; have B4 : BoxAt w4 w.heap.size #[.int .i64 0, .int .i64 0] := (by repeat (with_reducible (first | assumption | exact BoxAt.new _ _ _ | apply BoxAt.set2 | refine BoxAt.set2' ?_ (by omega) | apply BoxAt.setP0 | apply BoxAt.setP1 | refine BoxAt.setO ?_ (by omega) | refine BoxAt.alloc ?_ _ | refine BoxAt.drew ?_ | refine BoxAt.toExt ?_ (by assumption)))); have R4 : BoxAt w4 (w.heap.size + 1) #[.int .i64 x, .int .i64 1] := (by repeat (with_reducible (first | assumption | exact BoxAt.new _ _ _ | apply BoxAt.set2 | refine BoxAt.set2' ?_ (by omega) | apply BoxAt.setP0 | apply BoxAt.setP1 | refine BoxAt.setO ?_ (by omega) | refine BoxAt.alloc ?_ _ | refine BoxAt.drew ?_ | refine BoxAt.toExt ?_ (by assumption)))); obtain ⟨_, l4, k4, k4', f4⟩ := box2 B4; obtain ⟨_, m4, n4, n4', g4⟩ := box2 R4))
          exact bodyPost_ret (v := .tuple #[.agg #[.int .i64 x, .int .i64 1], .bool true]) (by simp [results, Try.results9, go_sem, *]) rfl ⟨by rw [HR.out]; rfl, (by refine Chg.isExt (F := []) ?_ (refl_ext _) (by simp); repeat (with_reducible (first | exact Chg.refl _ _ | exact Nat.le_refl _ | exact Chg.ofExt (by assumption) | refine Chg.trans0 ?_ (by assumption) | refine Chg.extS ?_ _ | refine Chg.alloc ?_ _ | refine Chg.drew ?_ | refine Chg.setCellE ?_ ?_ _ | refine le_addk ?_ _ | refine le_ext ?_ | refine le_alloc ?_ _ | refine le_setC ?_ _ _ | refine le_drew ?_ | assumption | (refine Nat.le_of_lt ?_; omega) | omega)))⟩
      · have q1 := str_beqf hts
        have q2 := str_bnef hts
        have HR := Lib.hid (show pRs s = none by rw [hfin]; unfold fin; rw [if_neg (fun h => hts (ht.symm.trans h.1))])
        clear hj e hx ht hfin hts
        go_wp2_with (first | (go_at_call 30; refine (l2Num_any (by assumption)).mono ?_; rintro e w2 ⟨rfl, hx2⟩; rw [H0.out]; have B2 : BoxAt w2 w.heap.size #[.int .i64 0, .int .i64 0] := (by repeat (with_reducible (first | assumption | exact BoxAt.new _ _ _ | apply BoxAt.set2 | refine BoxAt.set2' ?_ (by omega) | apply BoxAt.setP0 | apply BoxAt.setP1 | refine BoxAt.setO ?_ (by omega) | refine BoxAt.alloc ?_ _ | refine BoxAt.drew ?_ | refine BoxAt.toExt ?_ (by assumption)))); have R2 : BoxAt w2 (w.heap.size + 1) #[.int .i64 0, .int .i64 1] := (by have h := (BoxAt.new (w.alloc (.cells #[.int .i64 0, .int .i64 0] 25)) #[.int .i64 0, .int .i64 1] 25).toExt hx2; simpa using h); obtain ⟨_, l2, k2, k2', f2⟩ := box2 B2; obtain ⟨_, m2, n2, n2', g2⟩ := box2 R2) | (go_at_call 25; refine specFormatRational_any.mono ?_; rintro e w4 ⟨rfl, hx4⟩; rw [HT.out]; have B4 : BoxAt w4 w.heap.size #[.int .i64 0, .int .i64 0] := (by repeat (with_reducible (first | assumption | exact BoxAt.new _ _ _ | apply BoxAt.set2 | refine BoxAt.set2' ?_ (by omega) | apply BoxAt.setP0 | apply BoxAt.setP1 | refine BoxAt.setO ?_ (by omega) | refine BoxAt.alloc ?_ _ | refine BoxAt.drew ?_ | refine BoxAt.toExt ?_ (by assumption)))); have R4 : BoxAt w4 (w.heap.size + 1) #[.int .i64 x, .int .i64 1] := (by repeat (with_reducible (first | assumption | exact BoxAt.new _ _ _ | apply BoxAt.set2 | refine BoxAt.set2' ?_ (by omega) | apply BoxAt.setP0 | apply BoxAt.setP1 | refine BoxAt.setO ?_ (by omega) | refine BoxAt.alloc ?_ _ | refine BoxAt.drew ?_ | refine BoxAt.toExt ?_ (by assumption)))); obtain ⟨_, l4, k4, k4', f4⟩ := box2 B4; obtain ⟨_, m4, n4, n4', g4⟩ := box2 R4))
        exact bodyPost_ret (v := .tuple #[.agg #[.int .i64 0, .int .i64 0], .bool false]) (by simp [results, Try.results9, go_sem, *]) rfl ⟨by rw [HR.out]; rfl, (by refine Chg.isExt (F := []) ?_ (refl_ext _) (by simp); repeat (with_reducible (first | exact Chg.refl _ _ | exact Nat.le_refl _ | exact Chg.ofExt (by assumption) | refine Chg.trans0 ?_ (by assumption) | refine Chg.extS ?_ _ | refine Chg.alloc ?_ _ | refine Chg.drew ?_ | refine Chg.setCellE ?_ ?_ _ | refine le_addk ?_ _ | refine le_ext ?_ | refine le_alloc ?_ _ | refine le_setC ?_ _ _ | refine le_drew ?_ | assumption | (refine Nat.le_of_lt ?_; omega) | omega)))⟩
def ratsG : List (Int × Int) → List ByteArray → Option (List (Int × Int))
  | acc, [] => some acc
  | acc, x :: xs => match pRat x with
    | none => none
    | some r => ratsG (acc ++ [r]) xs
def pRats (s : ByteArray) : Option (List (Int × Int)) := if s.size = 0 then some [] else ratsG [] (splB 32 s)
theorem ratsG_some {acc : List (Int × Int)} {xs : List ByteArray} {k : Nat} {r : Int × Int} (h : k < xs.length) (e : pRat xs[k] = some r) : ratsG acc (xs.drop k) = ratsG (acc ++ [r]) (xs.drop (k + 1)) := by
  rw [List.drop_eq_getElem_cons h, ratsG, e]
theorem ratsG_none {acc : List (Int × Int)} {xs : List ByteArray} {k : Nat} (h : k < xs.length) (e : pRat xs[k] = none) : ratsG acc (xs.drop k) = none := by
  rw [List.drop_eq_getElem_cons h, ratsG, e]
theorem ratsG_end {acc : List (Int × Int)} {xs : List ByteArray} {k : Nat} (h : ¬ k < xs.length) : ratsG acc (xs.drop k) = some acc := by
  rw [List.drop_eq_nil_of_le (by omega), ratsG]
theorem ratsG_length : ∀ (xs : List ByteArray) (acc l : List (Int × Int)), ratsG acc xs = some l → l.length = acc.length + xs.length
  | [], acc, l, h => by injection h with h; simp [h]
  | x :: xs, acc, l, h => by
    rw [ratsG] at h
    split at h
    · cases h
    · rw [ratsG_length xs _ _ h]
      simp; omega
theorem pRats_length {s : ByteArray} {l : List (Int × Int)} (h : pRats s = some l) : l.length ≤ s.size + 1 := by
  unfold pRats at h
  split at h
  · injection h with h; simp [← h]
  · rw [ratsG_length _ _ _ h]
    have := splB_length 32 s
    simpa using this
theorem splB_at {c : UInt8} {s : ByteArray} {k : Nat} (hs : s.size ≤ 1000000000) (h : k < (splB c s).length) : (splB c s)[k].size ≤ 1000000000 := Nat.le_trans (splB_piece (List.getElem_mem h)) hs
/-- what both hand back: the numbers, or none -/
def RatsRes (s : ByteArray) (w : World) (e : Ending) (w' : World) : Prop := ∃ v F, e = .returned (.tuple #[v, .bool (pRats s).isSome]) ∧ (∃ y, w' = ext w y) ∧ SV 25 2 sR w' v ((pRats s).getD []) F ∧ ∀ b ∈ F, w.heap.size ≤ b
set_option maxHeartbeats 1000000 in
theorem ParseRationals_any {s : ByteArray} {w : World} (hs : s.size ≤ 1000000000) : Calls Try.prog 12 #[.string s] w (RatsRes s w) := by
  by_cases h0 : s.size = 0
  · have he := isEmpty_yes h0
    have HR := Lib.hid (show pRats s = some [] by unfold pRats; rw [if_pos h0])
    clear h0
    go_enter Try.func12, Try.ntmps12
    go_wp2
    go_ret2
    exact ⟨_, [], by rw [HR.out]; rfl, refl_ext w, by rw [HR.out]; exact SV.nil, by simp⟩
  · have he := isEmpty_no (s := s) (by omega)
    have HR := Lib.hid (show pRats s = ratsG [] (splB 32 s) by unfold pRats; rw [if_neg h0])
    have hlen := splB_length 32 s
    obtain ⟨n, hn⟩ : ∃ n, (splB 32 s).length = n := ⟨_, rfl⟩
    have HN := Lib.hid hn
    have hn1 : (splB 32 s).length ≤ n := by omega
    have hn2 : n ≤ (splB 32 s).length := by omega
    have hn3 : n ≤ 1000000001 := by omega
    clear h0 hn
    go_enter Try.func12, Try.ntmps12
    go_wp2_with (go_at_call 21; refine (split_c 32 32 hs HN.out (by decide)).mono ?_; rintro e w1 ⟨A1, c1, rfl, hx1, r1⟩)
    go_loopw [4, 14] (fun v i wr => ∃ (k : Nat) (ds : List (Int × Int)) (F : List Nat), i = .int .i64 k ∧ k ≤ n ∧ SV 25 2 sR wr v ds F ∧ (∀ b ∈ F, w1.heap.size ≤ b) ∧ (∃ y, wr = ext w1 y) ∧ ds.length = k ∧ ratsG ds ((splB 32 s).drop k) = ratsG [] (splB 32 s)) (fun _ i _ => n - (intOf i).toNat)
    case atStart => exact ⟨0, [], [], rfl, by omega, SV.nil, by simp, refl_ext _, rfl, by simp⟩
    case round =>
      obtain ⟨k, ds, F, rfl, hk, hS, hF, hy, hl, hj⟩ := hrel
      have Hj := Lib.hid hj
      have HF := Lib.hid hF
      have Hl := Lib.hid hl
      have hl1 : ds.length ≤ k := by omega
      have hwr : ∃ y, wr = ext w y := trans_ext (by repeat (with_reducible (first | exact refl_ext _ | exact alloc_ext _ _ | exact drew_ext _ | assumption | refine trans_ext ?_ (drew_ext _) | refine trans_ext ?_ (alloc_ext _ _) | refine trans_ext ?_ (by assumption)))) hy
      clear hj hF hl
      by_cases hlt : k < n
      · have hlt2 : k < (splB 32 s).length := by omega
        have hsk := splB_at hs hlt2
        obtain ⟨b, o, rfl, hb, hc⟩ := (r1.toExt hy).atS hlt2
        obtain ⟨p, hp⟩ : ∃ p, (splB 32 s)[k] = p := ⟨_, rfl⟩
        rw [hp] at hsk hc
        cases hr : pRat p with
        | some r =>
          have HE := Lib.hid (show ratsG (ds ++ [r]) ((splB 32 s).drop (k + 1)) = ratsG [] (splB 32 s) by rw [← Hj.out, ratsG_some hlt2 (by rw [hp]; exact hr)])
          have Hr := Lib.hid hr
          clear hr hp
          go_wp2_with (first
            | (go_at_call 6; refine (ParseRational_any hsk).mono ?_; rintro e w2 ⟨rfl, hx2⟩; rw [Hr.out])
            | (at_builtin; refine wpList_app1 (E := sR) (d := r) rfl _ _ _ rfl tR rfl rfl rfl (by simp) (fun _ => ⟨rfl, rfl⟩) rfl (by simp [Value.oneCell']) (hS.toExt (by refine Chg.isExt (F := []) ?_ (refl_ext _) (by simp); repeat (with_reducible (first | exact Chg.refl _ _ | exact Nat.le_refl _ | exact Chg.ofExt (by assumption) | refine Chg.trans0 ?_ (by assumption) | refine Chg.extS ?_ _ | refine Chg.alloc ?_ _ | refine Chg.drew ?_ | refine Chg.setCellE ?_ ?_ _ | refine le_addk ?_ _ | refine le_ext ?_ | refine le_alloc ?_ _ | refine le_setC ?_ _ _ | refine le_drew ?_ | assumption | (refine Nat.le_of_lt ?_; omega) | omega)))) (by omega) (by omega) ?_; intro v' w' F' hS' hC' hF'))
          exact ⟨⟨k + 1, ds ++ [r], F', by go_num, by omega, hS', newer HF.out (size_of_ext (by refine Chg.isExt (F := []) ?_ (refl_ext _) (by simp); repeat (with_reducible (first | exact Chg.refl _ _ | exact Nat.le_refl _ | exact Chg.ofExt (by assumption) | refine Chg.trans0 ?_ (by assumption) | refine Chg.extS ?_ _ | refine Chg.alloc ?_ _ | refine Chg.drew ?_ | refine Chg.setCellE ?_ ?_ _ | refine le_addk ?_ _ | refine le_ext ?_ | refine le_alloc ?_ _ | refine le_setC ?_ _ _ | refine le_drew ?_ | assumption | (refine Nat.le_of_lt ?_; omega) | omega)))) hF', hC'.isExt (by refine Chg.isExt (F := []) ?_ (refl_ext _) (by simp); repeat (with_reducible (first | exact Chg.refl _ _ | exact Nat.le_refl _ | exact Chg.ofExt (by assumption) | refine Chg.trans0 ?_ (by assumption) | refine Chg.extS ?_ _ | refine Chg.alloc ?_ _ | refine Chg.drew ?_ | refine Chg.setCellE ?_ ?_ _ | refine le_addk ?_ _ | refine le_ext ?_ | refine le_alloc ?_ _ | refine le_setC ?_ _ _ | refine le_drew ?_ | assumption | (refine Nat.le_of_lt ?_; omega) | omega))) HF.out, by simp [Hl.out], HE.out⟩, by simp [intOf]; omega⟩
        | none =>
          have HE := Lib.hid (show pRats s = none by rw [HR.out, ← Hj.out, ratsG_none hlt2 (by rw [hp]; exact hr)])
          have Hr := Lib.hid hr
          clear hr hp
          go_wp2_with (first
            | (go_at_call 6; refine (ParseRational_any hsk).mono ?_; rintro e w2 ⟨rfl, hx2⟩; rw [Hr.out]))
          go_ret2
          exact ⟨_, [], by rw [HE.out]; rfl, trans_ext hwr (by refine Chg.isExt (F := []) ?_ (refl_ext _) (by simp); repeat (with_reducible (first | exact Chg.refl _ _ | exact Nat.le_refl _ | exact Chg.ofExt (by assumption) | refine Chg.trans0 ?_ (by assumption) | refine Chg.extS ?_ _ | refine Chg.alloc ?_ _ | refine Chg.drew ?_ | refine Chg.setCellE ?_ ?_ _ | refine le_addk ?_ _ | refine le_ext ?_ | refine le_alloc ?_ _ | refine le_setC ?_ _ _ | refine le_drew ?_ | assumption | (refine Nat.le_of_lt ?_; omega) | omega))), by rw [HE.out]; exact SV.nil, by simp⟩
      · have e := Hj.out
        rw [ratsG_end (by omega)] at e
        have HE := Lib.hid (show pRats s = some ds by rw [HR.out, e])
        clear e
        go_wp2
        go_ret2
        exact ⟨_, F, by rw [HE.out]; rfl, hwr, by rw [HE.out]; exact hS, fun b hb => Nat.le_trans (size_of_ext (by repeat (with_reducible (first | exact refl_ext _ | exact alloc_ext _ _ | exact drew_ext _ | assumption | refine trans_ext ?_ (drew_ext _) | refine trans_ext ?_ (alloc_ext _ _) | refine trans_ext ?_ (by assumption))))) (HF.out b hb)⟩
theorem l5Cut_c {s : ByteArray} (m : Int) (c : UInt8) {ws : List ByteArray} {w : World} (hs : s.size ≤ 1000000000) (hm : (c.toNat : Int) = m) (hw : splB c s = ws) :
    Calls Try.prog 35 #[.string s, .int .u8 m] w fun e w' => ∃ A cap F, e = .returned (.slice A ws.length cap) ∧ (∃ y, w' = ext w y) ∧ SV 9 1 sS w' (.slice A ws.length cap) ws F ∧ ∀ b ∈ F, w.heap.size ≤ b := by
  subst hm hw
  refine (l5Cut_any hs).mono ?_
  rintro e w' ⟨v, F, rfl, hx, hS, hF⟩
  obtain ⟨A, cap, rfl, _, _⟩ := hS.form
  exact ⟨A, cap, F, rfl, hx, hS, hF⟩
set_option maxHeartbeats 1000000 in
theorem specParseRationals_any {s : ByteArray} {w : World} (hs : s.size ≤ 1000000000) : Calls Try.prog 14 #[.string s] w (RatsRes s w) := by
  by_cases h0 : s.size = 0
  · have he := isEmpty_yes h0
    have HR := Lib.hid (show pRats s = some [] by unfold pRats; rw [if_pos h0])
    clear h0
    go_enter Try.func14, Try.ntmps14
    go_wp2
    go_ret2
    exact ⟨_, _, by rw [HR.out]; rfl, (by refine Chg.isExt (F := []) ?_ (refl_ext _) (by simp); repeat (with_reducible (first | exact Chg.refl _ _ | exact Nat.le_refl _ | exact Chg.ofExt (by assumption) | refine Chg.trans0 ?_ (by assumption) | refine Chg.extS ?_ _ | refine Chg.alloc ?_ _ | refine Chg.drew ?_ | refine Chg.setCellE ?_ ?_ _ | refine le_addk ?_ _ | refine le_ext ?_ | refine le_alloc ?_ _ | refine le_setC ?_ _ _ | refine le_drew ?_ | assumption | (refine Nat.le_of_lt ?_; omega) | omega))), by rw [HR.out]; exact SV.empty w, by simp⟩
  · have he := isEmpty_no (s := s) (by omega)
    have hlen := splB_length 32 s
    obtain ⟨ws, hws⟩ : ∃ ws, splB 32 s = ws := ⟨_, rfl⟩
    have HR := Lib.hid (show pRats s = ratsG [] ws by unfold pRats; rw [if_neg h0, hws])
    have HP := Lib.hid (show ∀ k (h : k < ws.length), ws[k].size ≤ 1000000000 by subst hws; exact fun k h => splB_at hs h)
    rw [hws] at hlen
    have HW := Lib.hid hws
    clear h0 hws
    go_enter Try.func14, Try.ntmps14
    go_wp2_with (go_at_call 35; refine (l5Cut_c 32 32 hs (by decide) HW.out).mono ?_; rintro e w1 ⟨A1, c1, F1, rfl, hx1, hS1, hF1⟩)
    have HF1 := Lib.hid hF1
    clear hF1
    go_loopw [4, 6] (fun v i wr => ∃ (k : Nat) (ds : List (Int × Int)) (F : List Nat), i = .int .i64 k ∧ k ≤ ws.length ∧ SV 25 2 sR wr v ds F ∧ (∀ b ∈ F, b = w.heap.size ∨ w1.heap.size ≤ b) ∧ SV 9 1 sS wr (.slice A1 ws.length c1) ws F1 ∧ (∃ y, wr = ext w y) ∧ w1.heap.size ≤ wr.heap.size ∧ ds.length = k ∧ ratsG ds (ws.drop k) = ratsG [] ws) (fun _ i _ => ws.length - (intOf i).toNat)
    case atStart => exact ⟨0, [], [w.heap.size], rfl, by omega, (SV.empty w).toExt hx1, fun b hb => .inl (List.mem_singleton.1 hb), hS1, (by refine Chg.isExt (F := []) ?_ (refl_ext _) (by simp); repeat (with_reducible (first | exact Chg.refl _ _ | exact Nat.le_refl _ | exact Chg.ofExt (by assumption) | refine Chg.trans0 ?_ (by assumption) | refine Chg.extS ?_ _ | refine Chg.alloc ?_ _ | refine Chg.drew ?_ | refine Chg.setCellE ?_ ?_ _ | refine le_addk ?_ _ | refine le_ext ?_ | refine le_alloc ?_ _ | refine le_setC ?_ _ _ | refine le_drew ?_ | assumption | (refine Nat.le_of_lt ?_; omega) | omega))), Nat.le_refl _, rfl, by simp⟩
    case round =>
      obtain ⟨k, ds, F, rfl, hk, hS, hF, hS2, hy, hz, hl, hj⟩ := hrel
      have Hj := Lib.hid hj
      have HF := Lib.hid hF
      have Hl := Lib.hid hl
      have hl1 : ds.length ≤ k := by omega
      have hwz := size_of_ext hy
      have HFw := Lib.hid (show ∀ b ∈ F, w.heap.size ≤ b by
        intro b hb
        rcases hF b hb with h | h
        · omega
        · exact Nat.le_trans (Nat.le_trans (by simp) (size_of_ext hx1)) h)
      have Hd := Lib.hid (show ∀ b ∈ F1, b ∉ F by
        intro b hb hbF
        have h1 := HF1.out b hb
        have h2 := hS1.lt b hb
        simp at h1
        rcases hF b hbF with h | h <;> omega)
      clear hj hF hl
      by_cases hlt : k < ws.length
      · have hsk := HP.out k hlt
        obtain ⟨b, o, rfl, hb, hc⟩ := (hS2.toView sS_v).atS hlt
        obtain ⟨p, hp⟩ : ∃ p, ws[k] = p := ⟨_, rfl⟩
        rw [hp] at hsk hc
        cases hr : pRat p with
        | some r =>
          have HE := Lib.hid (show ratsG (ds ++ [r]) (ws.drop (k + 1)) = ratsG [] ws by rw [← Hj.out, ratsG_some hlt (by rw [hp]; exact hr)])
          have Hr := Lib.hid hr
          clear hr hp
          go_wp2_with (first
            | (go_at_call 9; refine (specParseRational_any hsk).mono ?_; rintro e w2 ⟨rfl, hx2⟩; rw [Hr.out])
            | (at_builtin; refine wpList_app1 (E := sR) (d := r) rfl _ _ _ rfl tR rfl rfl rfl (by simp) (fun _ => ⟨rfl, rfl⟩) rfl (by simp [Value.oneCell']) (hS.toExt (by refine Chg.isExt (F := []) ?_ (refl_ext _) (by simp); repeat (with_reducible (first | exact Chg.refl _ _ | exact Nat.le_refl _ | exact Chg.ofExt (by assumption) | refine Chg.trans0 ?_ (by assumption) | refine Chg.extS ?_ _ | refine Chg.alloc ?_ _ | refine Chg.drew ?_ | refine Chg.setCellE ?_ ?_ _ | refine le_addk ?_ _ | refine le_ext ?_ | refine le_alloc ?_ _ | refine le_setC ?_ _ _ | refine le_drew ?_ | assumption | (refine Nat.le_of_lt ?_; omega) | omega)))) (by omega) (by omega) ?_; intro v' w' F' hS' hC' hF'))
          have hx3 : ∃ y, w2.alloc (.cells #[.int .i64 r.1, .int .i64 r.2] 25) = ext wr y := (by refine Chg.isExt (F := []) ?_ (refl_ext _) (by simp); repeat (with_reducible (first | exact Chg.refl _ _ | exact Nat.le_refl _ | exact Chg.ofExt (by assumption) | refine Chg.trans0 ?_ (by assumption) | refine Chg.extS ?_ _ | refine Chg.alloc ?_ _ | refine Chg.drew ?_ | refine Chg.setCellE ?_ ?_ _ | refine le_addk ?_ _ | refine le_ext ?_ | refine le_alloc ?_ _ | refine le_setC ?_ _ _ | refine le_drew ?_ | assumption | (refine Nat.le_of_lt ?_; omega) | omega)))
          have hsz3 := size_of_ext hx3
          exact ⟨⟨k + 1, ds ++ [r], F', by go_num, by omega, hS', (fun b hb => by
            rcases hF' b hb with h | h
            · exact HF.out b h
            · exact .inr (by omega)), (hS2.toExt hx3).chg hC' Hd.out, hC'.isExt (by refine Chg.isExt (F := []) ?_ (refl_ext _) (by simp); repeat (with_reducible (first | exact Chg.refl _ _ | exact Nat.le_refl _ | exact Chg.ofExt (by assumption) | refine Chg.trans0 ?_ (by assumption) | refine Chg.extS ?_ _ | refine Chg.alloc ?_ _ | refine Chg.drew ?_ | refine Chg.setCellE ?_ ?_ _ | refine le_addk ?_ _ | refine le_ext ?_ | refine le_alloc ?_ _ | refine le_setC ?_ _ _ | refine le_drew ?_ | assumption | (refine Nat.le_of_lt ?_; omega) | omega))) HFw.out, by have := hC'.size; omega, by simp [Hl.out], HE.out⟩, by simp [intOf]; omega⟩
        | none =>
          have HE := Lib.hid (show pRats s = none by rw [HR.out, ← Hj.out, ratsG_none hlt (by rw [hp]; exact hr)])
          have Hr := Lib.hid hr
          clear hr hp
          go_wp2_with (first
            | (go_at_call 9; refine (specParseRational_any hsk).mono ?_; rintro e w2 ⟨rfl, hx2⟩; rw [Hr.out]))
          go_ret2
          have h5 := SV.empty (te := 25) (size := 2) (E := sR) (w2.alloc (.cells #[.int .i64 0, .int .i64 0] 25))
          have h4 := size_of_ext (w0 := w) (w := w2) (by refine Chg.isExt (F := []) ?_ (refl_ext _) (by simp); repeat (with_reducible (first | exact Chg.refl _ _ | exact Nat.le_refl _ | exact Chg.ofExt (by assumption) | refine Chg.trans0 ?_ (by assumption) | refine Chg.extS ?_ _ | refine Chg.alloc ?_ _ | refine Chg.drew ?_ | refine Chg.setCellE ?_ ?_ _ | refine le_addk ?_ _ | refine le_ext ?_ | refine le_alloc ?_ _ | refine le_setC ?_ _ _ | refine le_drew ?_ | assumption | (refine Nat.le_of_lt ?_; omega) | omega)))
          exact ⟨_, [w2.heap.size + 1], by rw [HE.out]; rfl, (by refine Chg.isExt (F := []) ?_ (refl_ext _) (by simp); repeat (with_reducible (first | exact Chg.refl _ _ | exact Nat.le_refl _ | exact Chg.ofExt (by assumption) | refine Chg.trans0 ?_ (by assumption) | refine Chg.extS ?_ _ | refine Chg.alloc ?_ _ | refine Chg.drew ?_ | refine Chg.setCellE ?_ ?_ _ | refine le_addk ?_ _ | refine le_ext ?_ | refine le_alloc ?_ _ | refine le_setC ?_ _ _ | refine le_drew ?_ | assumption | (refine Nat.le_of_lt ?_; omega) | omega))), by rw [HE.out]; simpa using h5, fun b hb => by
            rw [List.mem_singleton.1 hb]; omega⟩
      · have e := Hj.out
        rw [ratsG_end (by omega)] at e
        have HE := Lib.hid (show pRats s = some ds by rw [HR.out, e])
        clear e
        go_wp2
        go_ret2
        exact ⟨_, F, by rw [HE.out]; rfl, hy, by rw [HE.out]; exact hS, HFw.out⟩
end Go.Proofs.Ythhdmdmjadpgjaa
