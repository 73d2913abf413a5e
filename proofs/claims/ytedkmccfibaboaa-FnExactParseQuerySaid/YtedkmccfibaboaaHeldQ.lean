/- Marks looked for in lists of atoms and in queries. -/
import Derived.Test.YtedkmccfibaboaaMarkQ
namespace Go.Proofs.Ytedkmccfibaboaa
open Go.RowKit

set_option maxHeartbeats 2000000 in
theorem heldAtomS_any {A : Option Addr} {c n : Nat} {xs : List At} {k0 : Int} {w : World} (hn : xs.length = n) (hx : n ≤ 1000000000) (hxl : ∀ x ∈ xs, x.2.length ≤ 1000000000) (h1 : RV 2 vAt w A (mkN mkA k0 xs).1) (h0 : 0 ≤ k0) (hk0 : k0 + ((xs.map fun x => 1 + x.2.length).sum : Nat) ≤ 99000000000) :
    Calls Try.prog 29 #[.slice A n c, .int .i64 k0] w fun e w' => e = .returned (.int .i64 (mkN mkA k0 xs).2) ∧ ∃ y, w' = ext w y := by
  subst hn
  have Hxl := Lib.hid hxl
  have HB := Lib.hid (mkA_bd h0 hk0)
  clear hxl hk0
  go_enter Try.func29, Try.ntmps29
  go_wp2
  go_loopw [1, 5] (fun m i wr => ∃ k : Nat, i = .int .i64 k ∧ m = .int .i64 (mkN mkA k0 (xs.take k)).2 ∧ k ≤ xs.length ∧ ∃ y, wr = ext w y) (fun _ i _ => xs.length - (intOf i).toNat)
  case atStart => exact ⟨0, rfl, by simp [mkN], by omega, refl_ext w⟩
  case round =>
    obtain ⟨k, rfl, rfl, hk, hy⟩ := hrel
    by_cases hlt : k < xs.length
    · obtain ⟨b, o, A2, c2, rfl, hb, hc, hd, hv⟩ := (h1.toExt hy).atA (k := k) (by simpa using hlt)
      have hle := Hxl.out xs[k] (List.getElem_mem hlt)
      obtain ⟨b1, b2⟩ := HB.out k
      obtain ⟨b3, _⟩ := HB.out (k + 1)
      rw [mkN_take hlt] at b3
      have hat := mkN_at (mk := mkA) (k := k0) hlt
      obtain ⟨z, hz⟩ : ∃ z, (mkN mkA k0 xs).1[k]'(by simpa using hlt) = z := ⟨_, rfl⟩
      rw [hz] at hat hc hd hv
      obtain ⟨m, hm⟩ : ∃ m, (mkN mkA k0 (xs.take k)).2 = m := ⟨_, rfl⟩
      have HM := Lib.hid hm
      rw [hm] at b1 b2 b3 hat ⊢
      have hz1 : z.1 = mtx m := by rw [hat]; rfl
      have hz2 : z.2 = marks (m + 1) xs[k].2.length := by rw [hat]; rfl
      rw [hz1] at hc
      rw [hz2, marks_length] at hd
      rw [hz2] at hv
      have b4 : 0 ≤ m + 1 + xs[k].2.length := b3
      have q1 : ((mtx m).toList != (mtx m).toList) = false := by simp
      clear hm hz hat hz1 hz2 b3
      go_wp2_with fail
      refine wp_region_ext (by kernel_rfl) (by kernel_rfl) ?_
      repeat (go_big_quiet_step ((go_at_call 53; exact quietE (markText_any (by omega)))))
      refine wpQuiet_nil ?_
      rintro _ ⟨z2, rfl⟩
      have l2 := lt_ext (x := z2) hb
      have hvx := hv.toExt (w' := ext wr z2) ⟨z2, rfl⟩
      go_wp2_with (go_at_call 30; refine (heldIntS_any hle hvx (by omega) (by omega)).mono ?_; rintro e w2 ⟨rfl, hx2⟩)
      have e4 : (mkN mkA k0 (xs.take (k + 1))).2 = m + 1 + xs[k].2.length := by rw [mkN_take hlt, HM.out]; rfl
      exact ⟨⟨k + 1, by go_num, by rw [e4], by omega, trans_ext (trans_ext hy ⟨z2, rfl⟩) hx2⟩, by simp [intOf]; omega⟩
    · go_wp2
      go_ret
      have e : k = xs.length := by omega
      subst e
      rw [List.take_length]
      exact ⟨rfl, hy⟩
theorem heldAtomS_d {A : Option Addr} {c n : Nat} {d : List At} {k0 k' : Int} {w : World} (hb : BAts d) (hk : Hid ((mkN mkA k0 d).2 = k')) (h : vAts w [.slice A n c] (mkN mkA k0 d).1) (h0 : 0 ≤ k0) (hk0 : k0 ≤ 90000000000) :
    Calls Try.prog 29 #[.slice A n c, .int .i64 k0] w fun e w' => e = .returned (.int .i64 k') ∧ ∃ y, w' = ext w y := by
  have hm := mkA_tot d
  have hb1 := hb.1
  have hb2 := hb.2
  obtain ⟨hn, hv⟩ := vAts_get h
  rw [mkN_length] at hn
  have := heldAtomS_any (c := c) hn.symm (by omega) (fun x hx => Nat.le_trans (hb.each x hx).2 (by omega)) hv h0 (by omega)
  rw [hk.out] at this
  exact this
set_option maxHeartbeats 1000000 in
theorem heldQuery_d {A B : Option Addr} {c e1 n m : Nat} {z k0 k' : Int} {d : Qd} {w : World} (hb : BQ d) (hk : Hid ((mkQ k0 d).2 = k')) (h : vQ w [.int .i64 z, .slice A n c, .slice B m e1] (mkQ k0 d).1) (h0 : 0 ≤ k0) (hk0 : k0 ≤ 80000000000) :
    Calls Try.prog 9 #[.agg #[.int .i64 z, .slice A n c, .slice B m e1], .int .i64 k0] w fun e w' => e = .returned (.int .i64 k') ∧ ∃ y, w' = ext w y := by
  obtain ⟨hb1, hb2, hb3⟩ := hb
  have hm := mkA_tot d.2.1
  have hb21 := hb2.1
  have hb22 := hb2.2
  obtain ⟨A9, a9, B9, b9, hsh⟩ := vQ_shape h
  obtain ⟨r1, r2, _⟩ := vQ_get h
  have hsum := mkA_sum k0 d.2.1
  obtain ⟨k1, hk1⟩ : ∃ k1, (mkN mkA k0 d.2.1).2 = k1 := ⟨_, rfl⟩
  have HK1 := Lib.hid hk1
  have e1 : (mkQ k0 d).1.2.1 = (mkN mkA k0 d.2.1).1 := rfl
  have e2 : (mkQ k0 d).1.2.2 = marks k1 d.2.2.length := by unfold mkQ; rw [hk1]
  have e3 : k1 + d.2.2.length = k' := by rw [← hk.out]; unfold mkQ; rw [hk1]
  rw [e1] at r1
  rw [e2] at r2
  have hml : m = d.2.2.length := by
    simp only [List.cons.injEq, Value.slice.injEq, and_true] at hsh
    rw [hsh.2.2.2.1, e2, marks_length]
  subst hml
  rw [hk1] at hsum
  have hk10 : 0 ≤ k1 ∧ k1 ≤ 90000000000 := by rw [hsum]; omega
  obtain ⟨p1, p2⟩ := hk10
  have HE3 := Lib.hid e3
  clear h hsh hk1 e1 e2 e3 hsum hm hk
  go_enter Try.func9, Try.ntmps9
  go_upto_region 1 with fail
  refine wp_name ?_
  intro W hW
  have xW : ∃ y, W = ext w y := by rw [hW.out]; exact (by refine Chg.isExt (F := []) ?_ (refl_ext _) (by simp); repeat (with_reducible (first | exact Chg.refl _ _ | exact Nat.le_refl _ | exact Chg.ofExt (by assumption) | refine Chg.trans0 ?_ (by assumption) | refine Chg.extS ?_ _ | refine Chg.alloc ?_ _ | refine Chg.drew ?_ | refine Chg.setCellE ?_ ?_ _ | refine le_addk ?_ _ | refine le_ext ?_ | refine le_alloc ?_ _ | refine le_setC ?_ _ _ | refine le_drew ?_ | assumption | (refine Nat.le_of_lt ?_; omega) | omega)))
  have BW0 : BoxAt W (w.heap.size) #[.int .i64 z, .slice A n c, .slice B d.2.2.length e1] := by rw [hW.out]; refine ⟨?_, fun j => ?_, fun j => ?_⟩ <;> go_simp
  obtain ⟨lW0, bW0, fW0⟩ := BW0
  have cW0_0 : W.cell? ⟨w.heap.size, 0, none⟩ = some (.int .i64 z) := bW0 0
  have cW0_1 : W.cell? ⟨w.heap.size, 1, none⟩ = some (.slice A n c) := bW0 1
  have cW0_2 : W.cell? ⟨w.heap.size, 2, none⟩ = some (.slice B d.2.2.length e1) := bW0 2
  clear hW
  go_wp2_with (first
    | (go_at_call 29; refine (heldAtomS_d hb2 HK1 (VD.toExt r1 (by refine Chg.isExt (F := []) ?_ (refl_ext _) (by simp); repeat (with_reducible (first | exact Chg.refl _ _ | exact Nat.le_refl _ | exact Chg.ofExt (by assumption) | refine Chg.trans0 ?_ (by assumption) | refine Chg.extS ?_ _ | refine Chg.alloc ?_ _ | refine Chg.drew ?_ | refine Chg.setCellE ?_ ?_ _ | refine le_addk ?_ _ | refine le_ext ?_ | refine le_alloc ?_ _ | refine le_setC ?_ _ _ | refine le_drew ?_ | assumption | (refine Nat.le_of_lt ?_; omega) | omega)))) h0 (by omega)).mono ?_; rintro e w1 ⟨rfl, hx1⟩; have P1 : BoxAt w1 w.heap.size #[.int .i64 z, .slice A n c, .slice B d.2.2.length e1] := BoxAt.toExt ⟨lW0, bW0, fW0⟩ hx1; obtain ⟨l1, a1, a1', a1'', f1⟩ := box3 P1)
    | (go_at_call 30; (with_reducible refine (heldIntS_any ?_ (r2.toExt ?_) ?_ ?_).mono ?_); (focus (omega)); (focus (exact (by refine Chg.isExt (F := []) ?_ (refl_ext _) (by simp); repeat (with_reducible (first | exact Chg.refl _ _ | exact Nat.le_refl _ | exact Chg.ofExt (by assumption) | refine Chg.trans0 ?_ (by assumption) | refine Chg.extS ?_ _ | refine Chg.alloc ?_ _ | refine Chg.drew ?_ | refine Chg.setCellE ?_ ?_ _ | refine le_addk ?_ _ | refine le_ext ?_ | refine le_alloc ?_ _ | refine le_setC ?_ _ _ | refine le_drew ?_ | assumption | (refine Nat.le_of_lt ?_; omega) | omega))))); (focus (omega)); (focus (omega)); rintro e w2 ⟨rfl, hx2⟩))
  go_ret
  exact ⟨by rw [← HE3.out]; rfl, (by refine Chg.isExt (F := []) ?_ (refl_ext _) (by simp); repeat (with_reducible (first | exact Chg.refl _ _ | exact Nat.le_refl _ | exact Chg.ofExt (by assumption) | refine Chg.trans0 ?_ (by assumption) | refine Chg.extS ?_ _ | refine Chg.alloc ?_ _ | refine Chg.drew ?_ | refine Chg.setCellE ?_ ?_ _ | refine le_addk ?_ _ | refine le_ext ?_ | refine le_alloc ?_ _ | refine le_setC ?_ _ _ | refine le_drew ?_ | assumption | (refine Nat.le_of_lt ?_; omega) | omega)))⟩
end Go.Proofs.Ytedkmccfibaboaa
