/- For all arguments the program's SetRelation and the reference's give the same, the arguments are left alone, and what is handed back shares no memory with them. -/
import Derived.Test.YtgnmpjjlclbieaaT01
import Derived.Test.YtgnmpjjlclbieaaT02
import Derived.Test.YtgnmpjjlclbieaaT09
import Derived.Test.YtgnmpjjlclbieaaT10
import Derived.Test.YtgnmpjjlclbieaaT08
namespace Go.Proofs.Ytgnmpjjlclbieaa
open Go.ChangeShapes Go.WideShapes Go.ChangeAt Go.RowKit
set_option maxRecDepth 100000 in
set_option maxHeartbeats 4000000 in
theorem law_SetRelation_g0 (A0 : Option Addr) (c0 : Nat) (d0 : Dbd) (t1 : ByteArray) (A2 : Option Addr) (c2 : Nat) (d2 : Rd) (w : World)  (hg0 : 1048576 < t1.size) : Calls Try.prog 3 #[.agg #[.slice A0 d0.length c0], .string t1, .agg #[.int .i64 d2.1, .slice A2 d2.2.length c2]] w fun e w' => e = .returned (.bool true) ∧ ∃ y, w' = ext w y := by
  go_enter Try.func3, Try.ntmps3
  go_wp2_with fail
  go_ret
  exact ⟨rfl, (trans_ext (alloc_ext w (.cells #[.slice A0 d0.length c0] 24)) (alloc_ext (w.alloc (.cells #[.slice A0 d0.length c0] 24)) (.cells #[.int .i64 d2.1, .slice A2 d2.2.length c2] 27)))⟩
set_option maxRecDepth 100000 in
set_option maxHeartbeats 4000000 in
theorem law_SetRelation_z0 (A0 : Option Addr) (c0 : Nat) (d0 : Dbd) (t1 : ByteArray) (A2 : Option Addr) (c2 : Nat) (d2 : Rd) (w : World) (q0 : QDb d0) (r0 : vDb w [.slice A0 d0.length c0] d0) (k1 : t1.size ≤ 1048576) (hz0 : szN szTb (1048576) d0 < 0) : Calls Try.prog 3 #[.agg #[.slice A0 d0.length c0], .string t1, .agg #[.int .i64 d2.1, .slice A2 d2.2.length c2]] w fun e w' => e = .returned (.bool true) ∧ ∃ y, w' = ext w y := by
  go_enter Try.func3, Try.ntmps3
  go_wp2_with fail
  refine (szDatabase_d q0 (VD.toExt r0 (trans_ext (alloc_ext w (.cells #[.slice A0 d0.length c0] 24)) (alloc_ext (w.alloc (.cells #[.slice A0 d0.length c0] 24)) (.cells #[.int .i64 d2.1, .slice A2 d2.2.length c2] 27)))) (by omega) (by omega)).mono ?_
  rintro e w1 ⟨rfl, hx1⟩
  have B1_0 : BoxAt w1 (w.heap.size) #[.slice A0 d0.length c0] := by obtain ⟨y, e⟩ := hx1; rw [e]; refine ⟨?_, fun j => ?_, fun j => ?_⟩ <;> go_simp
  have B1_1 : BoxAt w1 (w.heap.size + 1) #[.int .i64 d2.1, .slice A2 d2.2.length c2] := by obtain ⟨y, e⟩ := hx1; rw [e]; refine ⟨?_, fun j => ?_, fun j => ?_⟩ <;> go_simp
  have lB1_0 := B1_0.1
  have bB1_0 := B1_0.2.1
  have lB1_1 := B1_1.1
  have bB1_1 := B1_1.2.1
  go_wp2_with fail
  go_ret
  exact ⟨rfl, (trans_ext (trans_ext (alloc_ext w (.cells #[.slice A0 d0.length c0] 24)) (alloc_ext (w.alloc (.cells #[.slice A0 d0.length c0] 24)) (.cells #[.int .i64 d2.1, .slice A2 d2.2.length c2] 27))) hx1)⟩
set_option maxRecDepth 100000 in
set_option maxHeartbeats 4000000 in
theorem law_SetRelation_z1 (A0 : Option Addr) (c0 : Nat) (d0 : Dbd) (t1 : ByteArray) (A2 : Option Addr) (c2 : Nat) (d2 : Rd) (w : World) (q0 : QDb d0) (r0 : vDb w [.slice A0 d0.length c0] d0) (q2 : QRel d2) (r2 : vRel w [.int .i64 d2.1, .slice A2 d2.2.length c2] d2) (k1 : t1.size ≤ 1048576) (hz0 : 0 ≤ szN szTb (1048576) d0) (hy0 : szN szTb (1048576) d0 ≤ 1048576) (hz1 : szN szI (szN szTb (1048576) d0) d2.2 < 0) : Calls Try.prog 3 #[.agg #[.slice A0 d0.length c0], .string t1, .agg #[.int .i64 d2.1, .slice A2 d2.2.length c2]] w fun e w' => e = .returned (.bool true) ∧ ∃ y, w' = ext w y := by
  go_enter Try.func3, Try.ntmps3
  go_wp2_with fail
  refine (szDatabase_d q0 (VD.toExt r0 (trans_ext (alloc_ext w (.cells #[.slice A0 d0.length c0] 24)) (alloc_ext (w.alloc (.cells #[.slice A0 d0.length c0] 24)) (.cells #[.int .i64 d2.1, .slice A2 d2.2.length c2] 27)))) (by omega) (by omega)).mono ?_
  rintro e w1 ⟨rfl, hx1⟩
  have B1_0 : BoxAt w1 (w.heap.size) #[.slice A0 d0.length c0] := by obtain ⟨y, e⟩ := hx1; rw [e]; refine ⟨?_, fun j => ?_, fun j => ?_⟩ <;> go_simp
  have B1_1 : BoxAt w1 (w.heap.size + 1) #[.int .i64 d2.1, .slice A2 d2.2.length c2] := by obtain ⟨y, e⟩ := hx1; rw [e]; refine ⟨?_, fun j => ?_, fun j => ?_⟩ <;> go_simp
  have lB1_0 := B1_0.1
  have bB1_0 := B1_0.2.1
  have lB1_1 := B1_1.1
  have bB1_1 := B1_1.2.1
  go_wp2_with fail
  refine (szRelation_d q2 (VD.toExt r2 (trans_ext (trans_ext (alloc_ext w (.cells #[.slice A0 d0.length c0] 24)) (alloc_ext (w.alloc (.cells #[.slice A0 d0.length c0] 24)) (.cells #[.int .i64 d2.1, .slice A2 d2.2.length c2] 27))) hx1)) (by omega) (by omega)).mono ?_
  rintro e w2 ⟨rfl, hx2⟩
  have B2_0 : BoxAt w2 (w.heap.size) #[.slice A0 d0.length c0] := (B1_0.toExt hx2)
  have B2_1 : BoxAt w2 (w.heap.size + 1) #[.int .i64 d2.1, .slice A2 d2.2.length c2] := (B1_1.toExt hx2)
  have lB2_0 := B2_0.1
  have bB2_0 := B2_0.2.1
  have lB2_1 := B2_1.1
  have bB2_1 := B2_1.2.1
  clear lB1_0 bB1_0 lB1_1 bB1_1
  go_wp2_with fail
  go_ret
  exact ⟨rfl, (trans_ext (trans_ext (trans_ext (alloc_ext w (.cells #[.slice A0 d0.length c0] 24)) (alloc_ext (w.alloc (.cells #[.slice A0 d0.length c0] 24)) (.cells #[.int .i64 d2.1, .slice A2 d2.2.length c2] 27))) hx1) hx2)⟩
set_option maxRecDepth 100000 in
set_option maxHeartbeats 4000000 in
theorem law_SetRelation_m (A0 : Option Addr) (c0 : Nat) (d0 : Dbd) (t1 : ByteArray) (A2 : Option Addr) (c2 : Nat) (d2 : Rd) (w : World) (q0 : QDb d0) (r0 : vDb w [.slice A0 d0.length c0] d0) (q2 : QRel d2) (r2 : vRel w [.int .i64 d2.1, .slice A2 d2.2.length c2] d2) (hz0 : 0 ≤ szN szTb (1048576) d0) (hy0 : szN szTb (1048576) d0 ≤ 1048576) (hz1 : 0 ≤ szN szI (szN szTb (1048576) d0) d2.2) (hy1 : szN szI (szN szTb (1048576) d0) d2.2 ≤ 1048576) (s0 : BDb d0) (k1 : t1.size ≤ 1048576) (s2 : BRel d2) : Calls Try.prog 3 #[.agg #[.slice A0 d0.length c0], .string t1, .agg #[.int .i64 d2.1, .slice A2 d2.2.length c2]] w fun e w' => e = .returned (.bool true) ∧ ∃ y, w' = ext w y := by
  have hb9 := setD_bd s0 t1 d2
  go_enter Try.func3, Try.ntmps3
  go_wp2_with fail
  refine (szDatabase_d q0 (VD.toExt r0 (trans_ext (alloc_ext w (.cells #[.slice A0 d0.length c0] 24)) (alloc_ext (w.alloc (.cells #[.slice A0 d0.length c0] 24)) (.cells #[.int .i64 d2.1, .slice A2 d2.2.length c2] 27)))) (by omega) (by omega)).mono ?_
  rintro e w1 ⟨rfl, hx1⟩
  have B1_0 : BoxAt w1 (w.heap.size) #[.slice A0 d0.length c0] := by obtain ⟨y, e⟩ := hx1; rw [e]; refine ⟨?_, fun j => ?_, fun j => ?_⟩ <;> go_simp
  have B1_1 : BoxAt w1 (w.heap.size + 1) #[.int .i64 d2.1, .slice A2 d2.2.length c2] := by obtain ⟨y, e⟩ := hx1; rw [e]; refine ⟨?_, fun j => ?_, fun j => ?_⟩ <;> go_simp
  have lB1_0 := B1_0.1
  have bB1_0 := B1_0.2.1
  have lB1_1 := B1_1.1
  have bB1_1 := B1_1.2.1
  go_wp2_with fail
  refine (szRelation_d q2 (VD.toExt r2 (trans_ext (trans_ext (alloc_ext w (.cells #[.slice A0 d0.length c0] 24)) (alloc_ext (w.alloc (.cells #[.slice A0 d0.length c0] 24)) (.cells #[.int .i64 d2.1, .slice A2 d2.2.length c2] 27))) hx1)) (by omega) (by omega)).mono ?_
  rintro e w2 ⟨rfl, hx2⟩
  have B2_0 : BoxAt w2 (w.heap.size) #[.slice A0 d0.length c0] := (B1_0.toExt hx2)
  have B2_1 : BoxAt w2 (w.heap.size + 1) #[.int .i64 d2.1, .slice A2 d2.2.length c2] := (B1_1.toExt hx2)
  have lB2_0 := B2_0.1
  have bB2_0 := B2_0.2.1
  have lB2_1 := B2_1.1
  have bB2_1 := B2_1.2.1
  clear lB1_0 bB1_0 lB1_1 bB1_1
  go_wp2_with fail
  go_cut [8, 9] (fun vA vB wx => ∃ b A3 c3 F, vA = .pointer (some ⟨b, 0, none⟩) ∧ vB = .bool (setD d0 t1 d2).2 ∧ BoxAt wx b #[.slice A3 ((setD d0 t1 d2).1).length c3] ∧ sDb wx [.slice A3 ((setD d0 t1 d2).1).length c3] (((setD d0 t1 d2).1)) F ∧ F.Nodup ∧ (∀ x ∈ F, w2.heap.size ≤ x ∧ x ≠ b) ∧ w2.heap.size ≤ b ∧ ∃ y, wx = ext w2 y)
  case first =>
    go_region_held3 (fun w' => (∀ a : Addr, a.block < w2.heap.size → w'.cell? a = w2.cell? a) ∧ ∃ y, w' = ext w2 y) (first | exact heldE (by refine x'z ?_; repeat (with_reducible (first | exact x'a _ _ | exact x'b _ | exact x'c (by assumption) | refine x'd ?_ (by assumption) | refine x'e ?_ _ | refine x'f ?_ _ | refine x'g ?_ | refine x'h ?_ ?_ _ | refine x'i ?_ _ | refine x'j ?_ | refine x'k ?_ _ | refine x'l ?_ _ _ | refine x'm ?_ | assumption | (refine x'n ?_; omega) | omega)))) (first | (go_at_call_of 7 (A0); refine (toDatabase_d s0 (VD.toExt r0 (trans_ext (trans_ext (trans_ext (trans_ext (alloc_ext w (.cells #[.slice A0 d0.length c0] 24)) (alloc_ext (w.alloc (.cells #[.slice A0 d0.length c0] 24)) (.cells #[.int .i64 d2.1, .slice A2 d2.2.length c2] 27))) hx1) hx2) (by refine x'z ?_; repeat (with_reducible (first | exact x'a _ _ | exact x'b _ | exact x'c (by assumption) | refine x'd ?_ (by assumption) | refine x'e ?_ _ | refine x'f ?_ _ | refine x'g ?_ | refine x'h ?_ ?_ _ | refine x'i ?_ _ | refine x'j ?_ | refine x'k ?_ _ | refine x'l ?_ _ _ | refine x'm ?_ | assumption | (refine x'n ?_; omega) | omega)))))).mono ?_; rintro e w3 ⟨v3, F3, rfl, hx3, hS3, hN3, hF3⟩; obtain ⟨A3, c3, rfl⟩ := sDb_form hS3; have hz3 : w2.heap.size ≤ w3.heap.size := size_of_ext (by refine x'z ?_; repeat (with_reducible (first | exact x'a _ _ | exact x'b _ | exact x'c (by assumption) | refine x'd ?_ (by assumption) | refine x'e ?_ _ | refine x'f ?_ _ | refine x'g ?_ | refine x'h ?_ ?_ _ | refine x'i ?_ _ | refine x'j ?_ | refine x'k ?_ _ | refine x'l ?_ _ _ | refine x'm ?_ | assumption | (refine x'n ?_; omega) | omega))); (first | (have L0_3 : BoxAt w3 w2.heap.size #[.slice none 0 0] := BoxAt.toExt (BoxAt.new w2 _ _) hx3; obtain ⟨z0_l3, z0_a3, z0_f3⟩ := bx1 L0_3) | (have L0_3 : BoxAt w3 w2.heap.size #[.slice none 0 0] := BoxAt.toExt (BoxAt.new w2.drew _ _) hx3; obtain ⟨z0_l3, z0_a3, z0_f3⟩ := bx1 L0_3) | (have L0_3 : BoxAt w3 w2.heap.size #[.slice none 0 0] := BoxAt.toExt (BoxAt.new w2 _ _).drew hx3; obtain ⟨z0_l3, z0_a3, z0_f3⟩ := bx1 L0_3) | skip)) | (go_at_call_of 8 (A2); refine (toRelation_d s2 (VD.toExt r2 (trans_ext (trans_ext (trans_ext (trans_ext (alloc_ext w (.cells #[.slice A0 d0.length c0] 24)) (alloc_ext (w.alloc (.cells #[.slice A0 d0.length c0] 24)) (.cells #[.int .i64 d2.1, .slice A2 d2.2.length c2] 27))) hx1) hx2) (by refine x'z ?_; repeat (with_reducible (first | exact x'a _ _ | exact x'b _ | exact x'c (by assumption) | refine x'd ?_ (by assumption) | refine x'e ?_ _ | refine x'f ?_ _ | refine x'g ?_ | refine x'h ?_ ?_ _ | refine x'i ?_ _ | refine x'j ?_ | refine x'k ?_ _ | refine x'l ?_ _ _ | refine x'm ?_ | assumption | (refine x'n ?_; omega) | omega)))))).mono ?_; rintro e w4 ⟨v4, u4, F4, rfl, hx4, hS4, hN4, hF4⟩; obtain ⟨A4, c4, rfl, rfl⟩ := sRel_form' hS4; have hz4 : w3.heap.size ≤ w4.heap.size := size_of_ext (by refine x'z ?_; repeat (with_reducible (first | exact x'a _ _ | exact x'b _ | exact x'c (by assumption) | refine x'd ?_ (by assumption) | refine x'e ?_ _ | refine x'f ?_ _ | refine x'g ?_ | refine x'h ?_ ?_ _ | refine x'i ?_ _ | refine x'j ?_ | refine x'k ?_ _ | refine x'l ?_ _ _ | refine x'm ?_ | assumption | (refine x'n ?_; omega) | omega))); (first | (have L0_4 : BoxAt w4 w2.heap.size #[.slice none 0 0] := BoxAt.toExt L0_3 hx4; obtain ⟨z0_l4, z0_a4, z0_f4⟩ := bx1 L0_4) | skip); (first | (have L1_4 : BoxAt w4 w3.heap.size #[.slice none 0 0] := BoxAt.toExt (BoxAt.new w3 _ _) hx4; obtain ⟨z1_l4, z1_a4, z1_f4⟩ := bx1 L1_4) | (have L1_4 : BoxAt w4 w3.heap.size #[.slice none 0 0] := BoxAt.toExt (BoxAt.new w3.drew _ _) hx4; obtain ⟨z1_l4, z1_a4, z1_f4⟩ := bx1 L1_4) | (have L1_4 : BoxAt w4 w3.heap.size #[.slice none 0 0] := BoxAt.toExt (BoxAt.new w3 _ _).drew hx4; obtain ⟨z1_l4, z1_a4, z1_f4⟩ := bx1 L1_4) | skip)) | (go_at_call 6; refine (specSetRelation_any (BDb.w s0) (vDb_get (sDb_v _ _ _ (OD.toExt hS3 (by refine x'z ?_; repeat (with_reducible (first | exact x'a _ _ | exact x'b _ | exact x'c (by assumption) | refine x'd ?_ (by assumption) | refine x'e ?_ _ | refine x'f ?_ _ | refine x'g ?_ | refine x'h ?_ ?_ _ | refine x'i ?_ _ | refine x'j ?_ | refine x'k ?_ _ | refine x'l ?_ _ _ | refine x'm ?_ | assumption | (refine x'n ?_; omega) | omega)))))).2.1 s0.1.1 (by omega) s2 (sRel_v _ _ _ (OD.toExt hS4 (by refine x'z ?_; repeat (with_reducible (first | exact x'a _ _ | exact x'b _ | exact x'c (by assumption) | refine x'd ?_ (by assumption) | refine x'e ?_ _ | refine x'f ?_ _ | refine x'g ?_ | refine x'h ?_ ?_ _ | refine x'i ?_ _ | refine x'j ?_ | refine x'k ?_ _ | refine x'l ?_ _ _ | refine x'm ?_ | assumption | (refine x'n ?_; omega) | omega)))))).mono ?_; rintro e w5 ⟨v5, F5, rfl, hx5, hS5, hN5, hF5⟩; obtain ⟨A5, c5, rfl⟩ := sDb_form hS5; have hz5 : w4.heap.size ≤ w5.heap.size := size_of_ext (by refine x'z ?_; repeat (with_reducible (first | exact x'a _ _ | exact x'b _ | exact x'c (by assumption) | refine x'd ?_ (by assumption) | refine x'e ?_ _ | refine x'f ?_ _ | refine x'g ?_ | refine x'h ?_ ?_ _ | refine x'i ?_ _ | refine x'j ?_ | refine x'k ?_ _ | refine x'l ?_ _ _ | refine x'm ?_ | assumption | (refine x'n ?_; omega) | omega))); (first | (have L0_5 : BoxAt w5 w2.heap.size #[.slice none 0 0] := BoxAt.toExt L0_4 hx5; obtain ⟨z0_l5, z0_a5, z0_f5⟩ := bx1 L0_5) | skip); (first | (have L1_5 : BoxAt w5 w3.heap.size #[.slice none 0 0] := BoxAt.toExt L1_4 hx5; obtain ⟨z1_l5, z1_a5, z1_f5⟩ := bx1 L1_5) | skip); (first | (have L2_5 : BoxAt w5 w4.heap.size #[.slice none 0 0] := BoxAt.toExt (BoxAt.new w4 _ _) hx5; obtain ⟨z2_l5, z2_a5, z2_f5⟩ := bx1 L2_5) | (have L2_5 : BoxAt w5 w4.heap.size #[.slice none 0 0] := BoxAt.toExt (BoxAt.new w4.drew _ _) hx5; obtain ⟨z2_l5, z2_a5, z2_f5⟩ := bx1 L2_5) | (have L2_5 : BoxAt w5 w4.heap.size #[.slice none 0 0] := BoxAt.toExt (BoxAt.new w4 _ _).drew hx5; obtain ⟨z2_l5, z2_a5, z2_f5⟩ := bx1 L2_5) | skip)))
    all_goals
      go_wp2_with fail
      go_meet
      have hl5 := SMono.lt hS5
      have hdr : w2.drew.heap.size = w2.heap.size := rfl
      have hG5 : ∀ x ∈ F5, w4.heap.size ≤ x := fun x hx => Nat.le_trans (size_of_ext (by refine x'z ?_; repeat (with_reducible (first | exact x'a _ _ | exact x'b _ | exact x'c (by assumption) | refine x'd ?_ (by assumption) | refine x'e ?_ _ | refine x'f ?_ _ | refine x'g ?_ | refine x'h ?_ ?_ _ | refine x'i ?_ _ | refine x'j ?_ | refine x'k ?_ _ | refine x'l ?_ _ _ | refine x'm ?_ | assumption | (refine x'n ?_; omega) | omega)))) (hF5 x hx)
      first
        | exact ⟨w5.heap.size, A5, c5, F5, rfl, rfl, BoxAt.new _ _ _, OD.toExt hS5 (alloc_ext _ _), hN5, fun x hx => ⟨by have := hG5 x hx; omega, by have := hl5 x hx; omega⟩, by omega, (by refine x'z ?_; repeat (with_reducible (first | exact x'a _ _ | exact x'b _ | exact x'c (by assumption) | refine x'd ?_ (by assumption) | refine x'e ?_ _ | refine x'f ?_ _ | refine x'g ?_ | refine x'h ?_ ?_ _ | refine x'i ?_ _ | refine x'j ?_ | refine x'k ?_ _ | refine x'l ?_ _ _ | refine x'm ?_ | assumption | (refine x'n ?_; omega) | omega)))⟩
        | exact ⟨w2.heap.size, A5, c5, F5, rfl, rfl, (by repeat (with_reducible (first | assumption | exact BoxAt.new _ _ _ | apply BoxAt.set10 | apply BoxAt.set2 | refine BoxAt.set2' ?_ (by omega) | apply BoxAt.setP0 | apply BoxAt.setP1 | refine BoxAt.setO ?_ (by omega) | refine BoxAt.alloc ?_ _ | refine BoxAt.drew ?_ | refine BoxAt.toExt ?_ (by assumption)))), OD.chg (G := [w2.heap.size]) hS5 (by repeat (with_reducible (first | exact Chg.refl _ _ | refine Chg.trans0 ?_ (by assumption) | refine Chg.extS ?_ _ | refine Chg.alloc ?_ _ | refine Chg.drew ?_ | refine Chg.setCell ?_ (.inl (by simp)) _))) (fun x hx hm => by have := hG5 x hx; have h9 := L0_4.1; rw [List.mem_singleton.1 hm] at this; omega), hN5, fun x hx => ⟨by have := hG5 x hx; omega, by have := hG5 x hx; have h9 := L0_4.1; omega⟩, by omega, (by refine x'z ?_; repeat (with_reducible (first | exact x'a _ _ | exact x'b _ | exact x'c (by assumption) | refine x'd ?_ (by assumption) | refine x'e ?_ _ | refine x'f ?_ _ | refine x'g ?_ | refine x'h ?_ ?_ _ | refine x'i ?_ _ | refine x'j ?_ | refine x'k ?_ _ | refine x'l ?_ _ _ | refine x'm ?_ | assumption | (refine x'n ?_; omega) | omega)))⟩
        | exact ⟨w3.heap.size, A5, c5, F5, rfl, rfl, (by repeat (with_reducible (first | assumption | exact BoxAt.new _ _ _ | apply BoxAt.set10 | apply BoxAt.set2 | refine BoxAt.set2' ?_ (by omega) | apply BoxAt.setP0 | apply BoxAt.setP1 | refine BoxAt.setO ?_ (by omega) | refine BoxAt.alloc ?_ _ | refine BoxAt.drew ?_ | refine BoxAt.toExt ?_ (by assumption)))), OD.chg (G := [w3.heap.size]) hS5 (by repeat (with_reducible (first | exact Chg.refl _ _ | refine Chg.trans0 ?_ (by assumption) | refine Chg.extS ?_ _ | refine Chg.alloc ?_ _ | refine Chg.drew ?_ | refine Chg.setCell ?_ (.inl (by simp)) _))) (fun x hx hm => by have := hG5 x hx; have h9 := L1_4.1; rw [List.mem_singleton.1 hm] at this; omega), hN5, fun x hx => ⟨by have := hG5 x hx; omega, by have := hG5 x hx; have h9 := L1_4.1; omega⟩, by omega, (by refine x'z ?_; repeat (with_reducible (first | exact x'a _ _ | exact x'b _ | exact x'c (by assumption) | refine x'd ?_ (by assumption) | refine x'e ?_ _ | refine x'f ?_ _ | refine x'g ?_ | refine x'h ?_ ?_ _ | refine x'i ?_ _ | refine x'j ?_ | refine x'k ?_ _ | refine x'l ?_ _ _ | refine x'm ?_ | assumption | (refine x'n ?_; omega) | omega)))⟩
        | exact ⟨w4.heap.size, A5, c5, F5, rfl, rfl, (by repeat (with_reducible (first | assumption | exact BoxAt.new _ _ _ | apply BoxAt.set10 | apply BoxAt.set2 | refine BoxAt.set2' ?_ (by omega) | apply BoxAt.setP0 | apply BoxAt.setP1 | refine BoxAt.setO ?_ (by omega) | refine BoxAt.alloc ?_ _ | refine BoxAt.drew ?_ | refine BoxAt.toExt ?_ (by assumption)))), OD.chg (G := [w4.heap.size]) hS5 (by repeat (with_reducible (first | exact Chg.refl _ _ | refine Chg.trans0 ?_ (by assumption) | refine Chg.extS ?_ _ | refine Chg.alloc ?_ _ | refine Chg.drew ?_ | refine Chg.setCell ?_ (.inl (by simp)) _))) (fun x hx hm => by have := hF5 x hx; rw [World.size_alloc] at this; rw [List.mem_singleton.1 hm] at this; omega), hN5, fun x hx => ⟨by have := hG5 x hx; omega, by have := hF5 x hx; rw [World.size_alloc] at this; omega⟩, by omega, (by refine x'z ?_; repeat (with_reducible (first | exact x'a _ _ | exact x'b _ | exact x'c (by assumption) | refine x'd ?_ (by assumption) | refine x'e ?_ _ | refine x'f ?_ _ | refine x'g ?_ | refine x'h ?_ ?_ _ | refine x'i ?_ _ | refine x'j ?_ | refine x'k ?_ _ | refine x'l ?_ _ _ | refine x'm ?_ | assumption | (refine x'n ?_; omega) | omega)))⟩
  obtain ⟨bb3, A3, c3, F3, rfl, rfl, BB3, hS3, hN3, hD3, hbb3, hx3⟩ := hcut
  obtain ⟨w3, rfl⟩ : ∃ W, W = wc := ⟨_, rfl⟩
  have hF3 : ∀ x ∈ F3, w2.heap.size ≤ x := fun x hx => (hD3 x hx).1
  have B3_0 : BoxAt w3 (w.heap.size) #[.slice A0 d0.length c0] := B2_0.toExt hx3
  have B3_1 : BoxAt w3 (w.heap.size + 1) #[.int .i64 d2.1, .slice A2 d2.2.length c2] := B2_1.toExt hx3
  have B3_2 := BB3
  have lB3_0 := B3_0.1
  have bB3_0 := B3_0.2.1
  have lB3_1 := B3_1.1
  have bB3_1 := B3_1.2.1
  have lB3_2 := B3_2.1
  have bB3_2 := B3_2.2.1
  clear lB2_0 bB2_0 lB2_1 bB2_1
  go_wp2_with fail
  refine (toDatabase_d s0 (VD.toExt r0 (trans_ext (trans_ext (trans_ext (trans_ext (alloc_ext w (.cells #[.slice A0 d0.length c0] 24)) (alloc_ext (w.alloc (.cells #[.slice A0 d0.length c0] 24)) (.cells #[.int .i64 d2.1, .slice A2 d2.2.length c2] 27))) hx1) hx2) hx3))).mono ?_
  rintro e w4 ⟨v4, F4, rfl, hx4, hS4, hN4, hF4⟩
  obtain ⟨A4, c4, rfl⟩ := sDb_form hS4
  have B4_0 : BoxAt w4 (w.heap.size) #[.slice A0 d0.length c0] := (B3_0.toExt hx4)
  have B4_1 : BoxAt w4 (w.heap.size + 1) #[.int .i64 d2.1, .slice A2 d2.2.length c2] := (B3_1.toExt hx4)
  have B4_2 : BoxAt w4 (bb3) #[.slice A3 ((setD d0 t1 d2).1).length c3] := (B3_2.toExt hx4)
  have lB4_0 := B4_0.1
  have bB4_0 := B4_0.2.1
  have lB4_1 := B4_1.1
  have bB4_1 := B4_1.2.1
  have lB4_2 := B4_2.1
  have bB4_2 := B4_2.2.1
  clear lB3_0 bB3_0 lB3_1 bB3_1 lB3_2 bB3_2
  go_wp2_with fail
  refine (toRelation_d s2 (VD.toExt r2 (trans_ext (trans_ext (trans_ext (trans_ext (trans_ext (trans_ext (alloc_ext w (.cells #[.slice A0 d0.length c0] 24)) (alloc_ext (w.alloc (.cells #[.slice A0 d0.length c0] 24)) (.cells #[.int .i64 d2.1, .slice A2 d2.2.length c2] 27))) hx1) hx2) hx3) hx4) (alloc_ext w4 (.cells #[.slice A4 d0.length c4] 32))))).mono ?_
  rintro e w5 ⟨v5, u5, F5, rfl, hx5, hS5, hN5, hF5⟩
  obtain ⟨A5, c5, rfl, rfl⟩ := sRel_form' hS5
  have B5_0 : BoxAt w5 (w.heap.size) #[.slice A0 d0.length c0] := ((B4_0.toExt (alloc_ext w4 (.cells #[.slice A4 d0.length c4] 32))).toExt hx5)
  have B5_1 : BoxAt w5 (w.heap.size + 1) #[.int .i64 d2.1, .slice A2 d2.2.length c2] := ((B4_1.toExt (alloc_ext w4 (.cells #[.slice A4 d0.length c4] 32))).toExt hx5)
  have B5_2 : BoxAt w5 (bb3) #[.slice A3 ((setD d0 t1 d2).1).length c3] := ((B4_2.toExt (alloc_ext w4 (.cells #[.slice A4 d0.length c4] 32))).toExt hx5)
  have B5_3 : BoxAt w5 (w4.heap.size) #[.slice A4 d0.length c4] := ((BoxAt.new _ _ _).toExt hx5)
  have lB5_0 := B5_0.1
  have bB5_0 := B5_0.2.1
  have lB5_1 := B5_1.1
  have bB5_1 := B5_1.2.1
  have lB5_2 := B5_2.1
  have bB5_2 := B5_2.2.1
  have lB5_3 := B5_3.1
  have bB5_3 := B5_3.2.1
  clear lB4_0 bB4_0 lB4_1 bB4_1 lB4_2 bB4_2
  go_wp2_with fail
  refine (SetRelation_any (BDb.w s0) (vDb_get (sDb_v _ _ _ (OD.toExt (OD.toExt (OD.toExt hS4 (alloc_ext w4 (.cells #[.slice A4 d0.length c4] 32))) hx5) (alloc_ext w5 (.cells #[.int .i64 d2.1, .slice A5 d2.2.length c5] 36))))).2.1 s0.1.1 (by omega) s2 (sRel_v _ _ _ (OD.toExt hS5 (alloc_ext w5 (.cells #[.int .i64 d2.1, .slice A5 d2.2.length c5] 36))))).mono ?_
  rintro e w6 ⟨v6, F6, rfl, hx6, hS6, hN6, hF6⟩
  obtain ⟨A6, c6, rfl⟩ := sDb_form hS6
  have B6_0 : BoxAt w6 (w.heap.size) #[.slice A0 d0.length c0] := ((B5_0.toExt (alloc_ext w5 (.cells #[.int .i64 d2.1, .slice A5 d2.2.length c5] 36))).toExt hx6)
  have B6_1 : BoxAt w6 (w.heap.size + 1) #[.int .i64 d2.1, .slice A2 d2.2.length c2] := ((B5_1.toExt (alloc_ext w5 (.cells #[.int .i64 d2.1, .slice A5 d2.2.length c5] 36))).toExt hx6)
  have B6_2 : BoxAt w6 (bb3) #[.slice A3 ((setD d0 t1 d2).1).length c3] := ((B5_2.toExt (alloc_ext w5 (.cells #[.int .i64 d2.1, .slice A5 d2.2.length c5] 36))).toExt hx6)
  have B6_3 : BoxAt w6 (w4.heap.size) #[.slice A4 d0.length c4] := ((B5_3.toExt (alloc_ext w5 (.cells #[.int .i64 d2.1, .slice A5 d2.2.length c5] 36))).toExt hx6)
  have B6_4 : BoxAt w6 (w5.heap.size) #[.int .i64 d2.1, .slice A5 d2.2.length c5] := ((BoxAt.new _ _ _).toExt hx6)
  have lB6_0 := B6_0.1
  have bB6_0 := B6_0.2.1
  have lB6_1 := B6_1.1
  have bB6_1 := B6_1.2.1
  have lB6_2 := B6_2.1
  have bB6_2 := B6_2.2.1
  have lB6_3 := B6_3.1
  have bB6_3 := B6_3.2.1
  have lB6_4 := B6_4.1
  have bB6_4 := B6_4.2.1
  clear lB5_0 bB5_0 lB5_1 bB5_1 lB5_2 bB5_2 lB5_3 bB5_3
  go_wp2_with fail
  refine (eqDatabase_d hb9 (sDb_v _ _ _ (OD.toExt hS6 (alloc_ext w6 (.cells #[.slice A6 ((setD d0 t1 d2).1).length c6] 32)))) hb9 (sDb_v _ _ _ (OD.toExt (OD.toExt (OD.toExt (OD.toExt (OD.toExt (OD.toExt hS3 hx4) (alloc_ext w4 (.cells #[.slice A4 d0.length c4] 32))) hx5) (alloc_ext w5 (.cells #[.int .i64 d2.1, .slice A5 d2.2.length c5] 36))) hx6) (alloc_ext w6 (.cells #[.slice A6 ((setD d0 t1 d2).1).length c6] 32))))).mono ?_
  rintro e w7 ⟨rfl, hx7⟩
  have B7_0 : BoxAt w7 (w.heap.size) #[.slice A0 d0.length c0] := ((B6_0.toExt (alloc_ext w6 (.cells #[.slice A6 ((setD d0 t1 d2).1).length c6] 32))).toExt hx7)
  have B7_1 : BoxAt w7 (w.heap.size + 1) #[.int .i64 d2.1, .slice A2 d2.2.length c2] := ((B6_1.toExt (alloc_ext w6 (.cells #[.slice A6 ((setD d0 t1 d2).1).length c6] 32))).toExt hx7)
  have B7_2 : BoxAt w7 (bb3) #[.slice A3 ((setD d0 t1 d2).1).length c3] := ((B6_2.toExt (alloc_ext w6 (.cells #[.slice A6 ((setD d0 t1 d2).1).length c6] 32))).toExt hx7)
  have B7_3 : BoxAt w7 (w4.heap.size) #[.slice A4 d0.length c4] := ((B6_3.toExt (alloc_ext w6 (.cells #[.slice A6 ((setD d0 t1 d2).1).length c6] 32))).toExt hx7)
  have B7_4 : BoxAt w7 (w5.heap.size) #[.int .i64 d2.1, .slice A5 d2.2.length c5] := ((B6_4.toExt (alloc_ext w6 (.cells #[.slice A6 ((setD d0 t1 d2).1).length c6] 32))).toExt hx7)
  have B7_5 : BoxAt w7 (w6.heap.size) #[.slice A6 ((setD d0 t1 d2).1).length c6] := ((BoxAt.new _ _ _).toExt hx7)
  have lB7_0 := B7_0.1
  have bB7_0 := B7_0.2.1
  have lB7_1 := B7_1.1
  have bB7_1 := B7_1.2.1
  have lB7_2 := B7_2.1
  have bB7_2 := B7_2.2.1
  have lB7_3 := B7_3.1
  have bB7_3 := B7_3.2.1
  have lB7_4 := B7_4.1
  have bB7_4 := B7_4.2.1
  have lB7_5 := B7_5.1
  have bB7_5 := B7_5.2.1
  clear lB6_0 bB6_0 lB6_1 bB6_1 lB6_2 bB6_2 lB6_3 bB6_3 lB6_4 bB6_4
  go_wp2_with fail
  go_region_held3 (fun w' => (∀ a : Addr, a.block < w7.heap.size → w'.cell? a = w7.cell? a) ∧ ∃ y, w' = ext w7 y) (first | exact heldE (drew_ext w7) | exact heldE (trans_ext (drew_ext w7) hx8) | exact heldE (trans_ext (trans_ext (drew_ext w7) hx8) hx9)) (first | (go_at_call_of 7 (A0); refine (toDatabase_d s0 (VD.toExt r0 (trans_ext (trans_ext (trans_ext (trans_ext (trans_ext (trans_ext (trans_ext (trans_ext (trans_ext (trans_ext (trans_ext (trans_ext (alloc_ext w (.cells #[.slice A0 d0.length c0] 24)) (alloc_ext (w.alloc (.cells #[.slice A0 d0.length c0] 24)) (.cells #[.int .i64 d2.1, .slice A2 d2.2.length c2] 27))) hx1) hx2) hx3) hx4) (alloc_ext w4 (.cells #[.slice A4 d0.length c4] 32))) hx5) (alloc_ext w5 (.cells #[.int .i64 d2.1, .slice A5 d2.2.length c5] 36))) hx6) (alloc_ext w6 (.cells #[.slice A6 ((setD d0 t1 d2).1).length c6] 32))) hx7) (drew_ext w7)))).mono ?_; rintro e w8 ⟨v8, F8, rfl, hx8, hS8, hN8, hF8⟩; obtain ⟨A8, c8, rfl⟩ := sDb_form hS8) | (go_at_call 10; refine (eqDatabase_d s0 (sDb_v _ _ _ (OD.toExt (OD.toExt (OD.toExt (OD.toExt (OD.toExt (OD.toExt (OD.toExt (OD.toExt hS4 (alloc_ext w4 (.cells #[.slice A4 d0.length c4] 32))) hx5) (alloc_ext w5 (.cells #[.int .i64 d2.1, .slice A5 d2.2.length c5] 36))) hx6) (alloc_ext w6 (.cells #[.slice A6 ((setD d0 t1 d2).1).length c6] 32))) hx7) (drew_ext w7)) hx8)) s0 (sDb_v _ _ _ hS8)).mono ?_; rintro e w9 ⟨rfl, hx9⟩))
  have B9_0 : BoxAt w9 (w.heap.size) #[.slice A0 d0.length c0] := B7_0.toExt (trans_ext (trans_ext (drew_ext w7) hx8) hx9)
  have B9_1 : BoxAt w9 (w.heap.size + 1) #[.int .i64 d2.1, .slice A2 d2.2.length c2] := B7_1.toExt (trans_ext (trans_ext (drew_ext w7) hx8) hx9)
  have B9_2 : BoxAt w9 (bb3) #[.slice A3 ((setD d0 t1 d2).1).length c3] := B7_2.toExt (trans_ext (trans_ext (drew_ext w7) hx8) hx9)
  have B9_3 : BoxAt w9 (w4.heap.size) #[.slice A4 d0.length c4] := B7_3.toExt (trans_ext (trans_ext (drew_ext w7) hx8) hx9)
  have B9_4 : BoxAt w9 (w5.heap.size) #[.int .i64 d2.1, .slice A5 d2.2.length c5] := B7_4.toExt (trans_ext (trans_ext (drew_ext w7) hx8) hx9)
  have B9_5 : BoxAt w9 (w6.heap.size) #[.slice A6 ((setD d0 t1 d2).1).length c6] := B7_5.toExt (trans_ext (trans_ext (drew_ext w7) hx8) hx9)
  have lB9_0 := B9_0.1
  have bB9_0 := B9_0.2.1
  have lB9_1 := B9_1.1
  have bB9_1 := B9_1.2.1
  have lB9_2 := B9_2.1
  have bB9_2 := B9_2.2.1
  have lB9_3 := B9_3.1
  have bB9_3 := B9_3.2.1
  have lB9_4 := B9_4.1
  have bB9_4 := B9_4.2.1
  have lB9_5 := B9_5.1
  have bB9_5 := B9_5.2.1
  clear lB7_0 bB7_0 lB7_1 bB7_1 lB7_2 bB7_2 lB7_3 bB7_3 lB7_4 bB7_4 lB7_5 bB7_5
  go_wp2_with fail
  go_region_held3 (fun w' => (∀ a : Addr, a.block < w9.heap.size → w'.cell? a = w9.cell? a) ∧ ∃ y, w' = ext w9 y) (first | exact heldE (drew_ext w9) | exact heldE (trans_ext (drew_ext w9) hx10) | exact heldE (trans_ext (trans_ext (drew_ext w9) hx10) hx11)) (first | (go_at_call_of 8 (A2); refine (toRelation_d s2 (VD.toExt r2 (trans_ext (trans_ext (trans_ext (trans_ext (trans_ext (trans_ext (trans_ext (trans_ext (trans_ext (trans_ext (trans_ext (trans_ext (trans_ext (trans_ext (trans_ext (alloc_ext w (.cells #[.slice A0 d0.length c0] 24)) (alloc_ext (w.alloc (.cells #[.slice A0 d0.length c0] 24)) (.cells #[.int .i64 d2.1, .slice A2 d2.2.length c2] 27))) hx1) hx2) hx3) hx4) (alloc_ext w4 (.cells #[.slice A4 d0.length c4] 32))) hx5) (alloc_ext w5 (.cells #[.int .i64 d2.1, .slice A5 d2.2.length c5] 36))) hx6) (alloc_ext w6 (.cells #[.slice A6 ((setD d0 t1 d2).1).length c6] 32))) hx7) (drew_ext w7)) hx8) hx9) (drew_ext w9)))).mono ?_; rintro e w10 ⟨v10, u10, F10, rfl, hx10, hS10, hN10, hF10⟩; obtain ⟨A10, c10, rfl, rfl⟩ := sRel_form' hS10) | (go_at_call 11; refine (eqRelation_d s2 (sRel_v _ _ _ (OD.toExt (OD.toExt (OD.toExt (OD.toExt (OD.toExt (OD.toExt (OD.toExt (OD.toExt (OD.toExt hS5 (alloc_ext w5 (.cells #[.int .i64 d2.1, .slice A5 d2.2.length c5] 36))) hx6) (alloc_ext w6 (.cells #[.slice A6 ((setD d0 t1 d2).1).length c6] 32))) hx7) (drew_ext w7)) hx8) hx9) (drew_ext w9)) hx10)) s2 (sRel_v _ _ _ hS10)).mono ?_; rintro e w11 ⟨rfl, hx11⟩))
  have B11_0 : BoxAt w11 (w.heap.size) #[.slice A0 d0.length c0] := B9_0.toExt (trans_ext (trans_ext (drew_ext w9) hx10) hx11)
  have B11_1 : BoxAt w11 (w.heap.size + 1) #[.int .i64 d2.1, .slice A2 d2.2.length c2] := B9_1.toExt (trans_ext (trans_ext (drew_ext w9) hx10) hx11)
  have B11_2 : BoxAt w11 (bb3) #[.slice A3 ((setD d0 t1 d2).1).length c3] := B9_2.toExt (trans_ext (trans_ext (drew_ext w9) hx10) hx11)
  have B11_3 : BoxAt w11 (w4.heap.size) #[.slice A4 d0.length c4] := B9_3.toExt (trans_ext (trans_ext (drew_ext w9) hx10) hx11)
  have B11_4 : BoxAt w11 (w5.heap.size) #[.int .i64 d2.1, .slice A5 d2.2.length c5] := B9_4.toExt (trans_ext (trans_ext (drew_ext w9) hx10) hx11)
  have B11_5 : BoxAt w11 (w6.heap.size) #[.slice A6 ((setD d0 t1 d2).1).length c6] := B9_5.toExt (trans_ext (trans_ext (drew_ext w9) hx10) hx11)
  have lB11_0 := B11_0.1
  have bB11_0 := B11_0.2.1
  have lB11_1 := B11_1.1
  have bB11_1 := B11_1.2.1
  have lB11_2 := B11_2.1
  have bB11_2 := B11_2.2.1
  have lB11_3 := B11_3.1
  have bB11_3 := B11_3.2.1
  have lB11_4 := B11_4.1
  have bB11_4 := B11_4.2.1
  have lB11_5 := B11_5.1
  have bB11_5 := B11_5.2.1
  clear lB9_0 bB9_0 lB9_1 bB9_1 lB9_2 bB9_2 lB9_3 bB9_3 lB9_4 bB9_4 lB9_5 bB9_5
  go_wp2_with fail
  refine (markDatabase_d s0 (OD.toExt (OD.toExt (OD.toExt (OD.toExt (OD.toExt (OD.toExt (OD.toExt (OD.toExt (OD.toExt (OD.toExt (OD.toExt (OD.toExt hS4 (alloc_ext w4 (.cells #[.slice A4 d0.length c4] 32))) hx5) (alloc_ext w5 (.cells #[.int .i64 d2.1, .slice A5 d2.2.length c5] 36))) hx6) (alloc_ext w6 (.cells #[.slice A6 ((setD d0 t1 d2).1).length c6] 32))) hx7) (drew_ext w7)) hx8) hx9) (drew_ext w9)) hx10) hx11) hN4 (by omega) (by omega)).mono ?_
  rintro e w12 ⟨kk12, rfl, HK12, kl12, ku12, hS12, hC12⟩
  have B12_0 : BoxAt w12 (w.heap.size) #[.slice A0 d0.length c0] := (B11_0.chg hC12 (fun hb => by have h1 := hF4 _ hb; have h2 := size_of_ext (trans_ext hx2 hx3); have h3 := B1_0.1; omega))
  have B12_1 : BoxAt w12 (w.heap.size + 1) #[.int .i64 d2.1, .slice A2 d2.2.length c2] := (B11_1.chg hC12 (fun hb => by have h1 := hF4 _ hb; have h2 := size_of_ext (trans_ext hx2 hx3); have h3 := B1_1.1; omega))
  have B12_2 : BoxAt w12 (bb3) #[.slice A3 ((setD d0 t1 d2).1).length c3] := (B11_2.chg hC12 (fun hb => by have h1 := hF4 _ hb; have h2 := size_of_ext (refl_ext w3); have h3 := B3_2.1; omega))
  have B12_3 : BoxAt w12 (w4.heap.size) #[.slice A4 d0.length c4] := (B11_3.chg hC12 (fun hb => by have h1 := (SMono.lt hS4) _ hb; have h2 := size_of_ext (refl_ext w4); omega))
  have B12_4 : BoxAt w12 (w5.heap.size) #[.int .i64 d2.1, .slice A5 d2.2.length c5] := (B11_4.chg hC12 (fun hb => by have h1 := (SMono.lt hS4) _ hb; have h2 := size_of_ext (trans_ext (alloc_ext w4 (.cells #[.slice A4 d0.length c4] 32)) hx5); omega))
  have B12_5 : BoxAt w12 (w6.heap.size) #[.slice A6 ((setD d0 t1 d2).1).length c6] := (B11_5.chg hC12 (fun hb => by have h1 := (SMono.lt hS4) _ hb; have h2 := size_of_ext (trans_ext (trans_ext (trans_ext (alloc_ext w4 (.cells #[.slice A4 d0.length c4] 32)) hx5) (alloc_ext w5 (.cells #[.int .i64 d2.1, .slice A5 d2.2.length c5] 36))) hx6); omega))
  have lB12_0 := B12_0.1
  have bB12_0 := B12_0.2.1
  have lB12_1 := B12_1.1
  have bB12_1 := B12_1.2.1
  have lB12_2 := B12_2.1
  have bB12_2 := B12_2.2.1
  have lB12_3 := B12_3.1
  have bB12_3 := B12_3.2.1
  have lB12_4 := B12_4.1
  have bB12_4 := B12_4.2.1
  have lB12_5 := B12_5.1
  have bB12_5 := B12_5.2.1
  clear lB11_0 bB11_0 lB11_1 bB11_1 lB11_2 bB11_2 lB11_3 bB11_3 lB11_4 bB11_4 lB11_5 bB11_5
  go_wp2_with fail
  refine (markRelation_d s2 (OD.chg (OD.toExt (OD.toExt (OD.toExt (OD.toExt (OD.toExt (OD.toExt (OD.toExt (OD.toExt (OD.toExt (OD.toExt hS5 (alloc_ext w5 (.cells #[.int .i64 d2.1, .slice A5 d2.2.length c5] 36))) hx6) (alloc_ext w6 (.cells #[.slice A6 ((setD d0 t1 d2).1).length c6] 32))) hx7) (drew_ext w7)) hx8) hx9) (drew_ext w9)) hx10) hx11) hC12 (fun x ha hb => by have h1 := hF5 x ha; have h2 := (SMono.lt hS4) x hb; have h3 := size_of_ext (alloc_ext w4 (.cells #[.slice A4 d0.length c4] 32)); omega)) hN5 (by omega) (by omega)).mono ?_
  rintro e w13 ⟨kk13, rfl, HK13, kl13, ku13, hS13, hC13⟩
  have B13_0 : BoxAt w13 (w.heap.size) #[.slice A0 d0.length c0] := (B12_0.chg hC13 (fun hb => by have h1 := hF5 _ hb; have h2 := size_of_ext (trans_ext (trans_ext (trans_ext hx2 hx3) hx4) (alloc_ext w4 (.cells #[.slice A4 d0.length c4] 32))); have h3 := B1_0.1; omega))
  have B13_1 : BoxAt w13 (w.heap.size + 1) #[.int .i64 d2.1, .slice A2 d2.2.length c2] := (B12_1.chg hC13 (fun hb => by have h1 := hF5 _ hb; have h2 := size_of_ext (trans_ext (trans_ext (trans_ext hx2 hx3) hx4) (alloc_ext w4 (.cells #[.slice A4 d0.length c4] 32))); have h3 := B1_1.1; omega))
  have B13_2 : BoxAt w13 (bb3) #[.slice A3 ((setD d0 t1 d2).1).length c3] := (B12_2.chg hC13 (fun hb => by have h1 := hF5 _ hb; have h2 := size_of_ext (trans_ext hx4 (alloc_ext w4 (.cells #[.slice A4 d0.length c4] 32))); have h3 := B3_2.1; omega))
  have B13_3 : BoxAt w13 (w4.heap.size) #[.slice A4 d0.length c4] := (B12_3.chg hC13 (fun hb => by have h1 := hF5 _ hb; have h2 := (BoxAt.new w4 #[.slice A4 d0.length c4] 32).1; omega))
  have B13_4 : BoxAt w13 (w5.heap.size) #[.int .i64 d2.1, .slice A5 d2.2.length c5] := (B12_4.chg hC13 (fun hb => by have h1 := (SMono.lt hS5) _ hb; have h2 := size_of_ext (refl_ext w5); omega))
  have B13_5 : BoxAt w13 (w6.heap.size) #[.slice A6 ((setD d0 t1 d2).1).length c6] := (B12_5.chg hC13 (fun hb => by have h1 := (SMono.lt hS5) _ hb; have h2 := size_of_ext (trans_ext (alloc_ext w5 (.cells #[.int .i64 d2.1, .slice A5 d2.2.length c5] 36)) hx6); omega))
  have lB13_0 := B13_0.1
  have bB13_0 := B13_0.2.1
  have lB13_1 := B13_1.1
  have bB13_1 := B13_1.2.1
  have lB13_2 := B13_2.1
  have bB13_2 := B13_2.2.1
  have lB13_3 := B13_3.1
  have bB13_3 := B13_3.2.1
  have lB13_4 := B13_4.1
  have bB13_4 := B13_4.2.1
  have lB13_5 := B13_5.1
  have bB13_5 := B13_5.2.1
  clear lB12_0 bB12_0 lB12_1 bB12_1 lB12_2 bB12_2 lB12_3 bB12_3 lB12_4 bB12_4 lB12_5 bB12_5
  go_wp2_with fail
  refine (eqDatabase_d hb9 (sDb_v _ _ _ (OD.chg (OD.chg (OD.toExt (OD.toExt (OD.toExt (OD.toExt (OD.toExt (OD.toExt (OD.toExt (OD.toExt hS6 (alloc_ext w6 (.cells #[.slice A6 ((setD d0 t1 d2).1).length c6] 32))) hx7) (drew_ext w7)) hx8) hx9) (drew_ext w9)) hx10) hx11) hC12 (fun x ha hb => by have h1 := hF6 x ha; have h2 := (SMono.lt hS4) x hb; have h3 := size_of_ext (trans_ext (trans_ext (alloc_ext w4 (.cells #[.slice A4 d0.length c4] 32)) hx5) (alloc_ext w5 (.cells #[.int .i64 d2.1, .slice A5 d2.2.length c5] 36))); omega)) hC13 (fun x ha hb => by have h1 := hF6 x ha; have h2 := (SMono.lt hS5) x hb; have h3 := size_of_ext (alloc_ext w5 (.cells #[.int .i64 d2.1, .slice A5 d2.2.length c5] 36)); omega))) hb9 (sDb_v _ _ _ (OD.chg (OD.chg (OD.toExt (OD.toExt (OD.toExt (OD.toExt (OD.toExt (OD.toExt (OD.toExt (OD.toExt (OD.toExt (OD.toExt (OD.toExt (OD.toExt (OD.toExt hS3 hx4) (alloc_ext w4 (.cells #[.slice A4 d0.length c4] 32))) hx5) (alloc_ext w5 (.cells #[.int .i64 d2.1, .slice A5 d2.2.length c5] 36))) hx6) (alloc_ext w6 (.cells #[.slice A6 ((setD d0 t1 d2).1).length c6] 32))) hx7) (drew_ext w7)) hx8) hx9) (drew_ext w9)) hx10) hx11) hC12 (fun x ha hb => by have h1 := hF4 x hb; have h2 := (SMono.lt hS3) x ha; have h3 := size_of_ext (refl_ext w3); omega)) hC13 (fun x ha hb => by have h1 := hF5 x hb; have h2 := (SMono.lt hS3) x ha; have h3 := size_of_ext (trans_ext hx4 (alloc_ext w4 (.cells #[.slice A4 d0.length c4] 32))); omega)))).mono ?_
  rintro e w14 ⟨rfl, hx14⟩
  have B14_0 : BoxAt w14 (w.heap.size) #[.slice A0 d0.length c0] := (B13_0.toExt hx14)
  have B14_1 : BoxAt w14 (w.heap.size + 1) #[.int .i64 d2.1, .slice A2 d2.2.length c2] := (B13_1.toExt hx14)
  have B14_2 : BoxAt w14 (bb3) #[.slice A3 ((setD d0 t1 d2).1).length c3] := (B13_2.toExt hx14)
  have B14_3 : BoxAt w14 (w4.heap.size) #[.slice A4 d0.length c4] := (B13_3.toExt hx14)
  have B14_4 : BoxAt w14 (w5.heap.size) #[.int .i64 d2.1, .slice A5 d2.2.length c5] := (B13_4.toExt hx14)
  have B14_5 : BoxAt w14 (w6.heap.size) #[.slice A6 ((setD d0 t1 d2).1).length c6] := (B13_5.toExt hx14)
  have lB14_0 := B14_0.1
  have bB14_0 := B14_0.2.1
  have lB14_1 := B14_1.1
  have bB14_1 := B14_1.2.1
  have lB14_2 := B14_2.1
  have bB14_2 := B14_2.2.1
  have lB14_3 := B14_3.1
  have bB14_3 := B14_3.2.1
  have lB14_4 := B14_4.1
  have bB14_4 := B14_4.2.1
  have lB14_5 := B14_5.1
  have bB14_5 := B14_5.2.1
  clear lB13_0 bB13_0 lB13_1 bB13_1 lB13_2 bB13_2 lB13_3 bB13_3 lB13_4 bB13_4 lB13_5 bB13_5
  go_wp2_with fail
  refine (markDatabase_d hb9 (OD.toExt (OD.chg (OD.chg (OD.toExt (OD.toExt (OD.toExt (OD.toExt (OD.toExt (OD.toExt (OD.toExt (OD.toExt hS6 (alloc_ext w6 (.cells #[.slice A6 ((setD d0 t1 d2).1).length c6] 32))) hx7) (drew_ext w7)) hx8) hx9) (drew_ext w9)) hx10) hx11) hC12 (fun x ha hb => by have h1 := hF6 x ha; have h2 := (SMono.lt hS4) x hb; have h3 := size_of_ext (trans_ext (trans_ext (alloc_ext w4 (.cells #[.slice A4 d0.length c4] 32)) hx5) (alloc_ext w5 (.cells #[.int .i64 d2.1, .slice A5 d2.2.length c5] 36))); omega)) hC13 (fun x ha hb => by have h1 := hF6 x ha; have h2 := (SMono.lt hS5) x hb; have h3 := size_of_ext (alloc_ext w5 (.cells #[.int .i64 d2.1, .slice A5 d2.2.length c5] 36)); omega)) hx14) hN6 (by omega) (by omega)).mono ?_
  rintro e w15 ⟨kk15, rfl, HK15, kl15, ku15, hS15, hC15⟩
  have B15_0 : BoxAt w15 (w.heap.size) #[.slice A0 d0.length c0] := (B14_0.chg hC15 (fun hb => by have h1 := hF6 _ hb; have h2 := size_of_ext (trans_ext (trans_ext (trans_ext (trans_ext (trans_ext hx2 hx3) hx4) (alloc_ext w4 (.cells #[.slice A4 d0.length c4] 32))) hx5) (alloc_ext w5 (.cells #[.int .i64 d2.1, .slice A5 d2.2.length c5] 36))); have h3 := B1_0.1; omega))
  have B15_1 : BoxAt w15 (w.heap.size + 1) #[.int .i64 d2.1, .slice A2 d2.2.length c2] := (B14_1.chg hC15 (fun hb => by have h1 := hF6 _ hb; have h2 := size_of_ext (trans_ext (trans_ext (trans_ext (trans_ext (trans_ext hx2 hx3) hx4) (alloc_ext w4 (.cells #[.slice A4 d0.length c4] 32))) hx5) (alloc_ext w5 (.cells #[.int .i64 d2.1, .slice A5 d2.2.length c5] 36))); have h3 := B1_1.1; omega))
  have B15_2 : BoxAt w15 (bb3) #[.slice A3 ((setD d0 t1 d2).1).length c3] := (B14_2.chg hC15 (fun hb => by have h1 := hF6 _ hb; have h2 := size_of_ext (trans_ext (trans_ext (trans_ext hx4 (alloc_ext w4 (.cells #[.slice A4 d0.length c4] 32))) hx5) (alloc_ext w5 (.cells #[.int .i64 d2.1, .slice A5 d2.2.length c5] 36))); have h3 := B3_2.1; omega))
  have B15_3 : BoxAt w15 (w4.heap.size) #[.slice A4 d0.length c4] := (B14_3.chg hC15 (fun hb => by have h1 := hF6 _ hb; have h2 := size_of_ext (alloc_ext w5 (.cells #[.int .i64 d2.1, .slice A5 d2.2.length c5] 36)); have h3 := B5_3.1; omega))
  have B15_4 : BoxAt w15 (w5.heap.size) #[.int .i64 d2.1, .slice A5 d2.2.length c5] := (B14_4.chg hC15 (fun hb => by have h1 := hF6 _ hb; have h2 := (BoxAt.new w5 #[.int .i64 d2.1, .slice A5 d2.2.length c5] 36).1; omega))
  have B15_5 : BoxAt w15 (w6.heap.size) #[.slice A6 ((setD d0 t1 d2).1).length c6] := (B14_5.chg hC15 (fun hb => by have h1 := (SMono.lt hS6) _ hb; have h2 := size_of_ext (refl_ext w6); omega))
  have lB15_0 := B15_0.1
  have bB15_0 := B15_0.2.1
  have lB15_1 := B15_1.1
  have bB15_1 := B15_1.2.1
  have lB15_2 := B15_2.1
  have bB15_2 := B15_2.2.1
  have lB15_3 := B15_3.1
  have bB15_3 := B15_3.2.1
  have lB15_4 := B15_4.1
  have bB15_4 := B15_4.2.1
  have lB15_5 := B15_5.1
  have bB15_5 := B15_5.2.1
  clear lB14_0 bB14_0 lB14_1 bB14_1 lB14_2 bB14_2 lB14_3 bB14_3 lB14_4 bB14_4 lB14_5 bB14_5
  go_wp2_with fail
  refine (heldDatabase_d hb9 HK15 (sDb_v _ _ _ hS15) (by omega) (by omega)).mono ?_
  rintro e w16 ⟨rfl, hx16⟩
  have B16_0 : BoxAt w16 (w.heap.size) #[.slice A0 d0.length c0] := (B15_0.toExt hx16)
  have B16_1 : BoxAt w16 (w.heap.size + 1) #[.int .i64 d2.1, .slice A2 d2.2.length c2] := (B15_1.toExt hx16)
  have B16_2 : BoxAt w16 (bb3) #[.slice A3 ((setD d0 t1 d2).1).length c3] := (B15_2.toExt hx16)
  have B16_3 : BoxAt w16 (w4.heap.size) #[.slice A4 d0.length c4] := (B15_3.toExt hx16)
  have B16_4 : BoxAt w16 (w5.heap.size) #[.int .i64 d2.1, .slice A5 d2.2.length c5] := (B15_4.toExt hx16)
  have B16_5 : BoxAt w16 (w6.heap.size) #[.slice A6 ((setD d0 t1 d2).1).length c6] := (B15_5.toExt hx16)
  have lB16_0 := B16_0.1
  have bB16_0 := B16_0.2.1
  have lB16_1 := B16_1.1
  have bB16_1 := B16_1.2.1
  have lB16_2 := B16_2.1
  have bB16_2 := B16_2.2.1
  have lB16_3 := B16_3.1
  have bB16_3 := B16_3.2.1
  have lB16_4 := B16_4.1
  have bB16_4 := B16_4.2.1
  have lB16_5 := B16_5.1
  have bB16_5 := B16_5.2.1
  clear lB15_0 bB15_0 lB15_1 bB15_1 lB15_2 bB15_2 lB15_3 bB15_3 lB15_4 bB15_4 lB15_5 bB15_5
  go_wp2_with fail
  go_cut [17, 18] (fun vA vB wx => ∃ b A17 c17 F, vA = .pointer (some ⟨b, 0, none⟩) ∧ vB = .bool (setD d0 t1 d2).2 ∧ BoxAt wx b #[.slice A17 ((setD d0 t1 d2).1).length c17] ∧ sDb wx [.slice A17 ((setD d0 t1 d2).1).length c17] (((setD d0 t1 d2).1)) F ∧ F.Nodup ∧ (∀ x ∈ F, w16.heap.size ≤ x ∧ x ≠ b) ∧ w16.heap.size ≤ b ∧ ∃ y, wx = ext w16 y)
  case first =>
    go_region_held3 (fun w' => (∀ a : Addr, a.block < w16.heap.size → w'.cell? a = w16.cell? a) ∧ ∃ y, w' = ext w16 y) (first | exact heldE (by refine x'z ?_; repeat (with_reducible (first | exact x'a _ _ | exact x'b _ | exact x'c (by assumption) | refine x'd ?_ (by assumption) | refine x'e ?_ _ | refine x'f ?_ _ | refine x'g ?_ | refine x'h ?_ ?_ _ | refine x'i ?_ _ | refine x'j ?_ | refine x'k ?_ _ | refine x'l ?_ _ _ | refine x'm ?_ | assumption | (refine x'n ?_; omega) | omega)))) (first | (go_at_call_of 7 (A0); refine (toDatabase_d s0 (VD.toExt r0 (trans_ext (trans_ext (hC15.isExt (trans_ext (hC13.isExt (hC12.isExt (trans_ext (trans_ext (trans_ext (trans_ext (trans_ext (trans_ext (trans_ext (trans_ext (trans_ext (trans_ext (trans_ext (trans_ext (trans_ext (trans_ext (trans_ext (trans_ext (trans_ext (alloc_ext w (.cells #[.slice A0 d0.length c0] 24)) (alloc_ext (w.alloc (.cells #[.slice A0 d0.length c0] 24)) (.cells #[.int .i64 d2.1, .slice A2 d2.2.length c2] 27))) hx1) hx2) hx3) hx4) (alloc_ext w4 (.cells #[.slice A4 d0.length c4] 32))) hx5) (alloc_ext w5 (.cells #[.int .i64 d2.1, .slice A5 d2.2.length c5] 36))) hx6) (alloc_ext w6 (.cells #[.slice A6 ((setD d0 t1 d2).1).length c6] 32))) hx7) (drew_ext w7)) hx8) hx9) (drew_ext w9)) hx10) hx11) (fun b hb => Nat.le_trans (size_of_ext (trans_ext (trans_ext (trans_ext (trans_ext (alloc_ext w (.cells #[.slice A0 d0.length c0] 24)) (alloc_ext (w.alloc (.cells #[.slice A0 d0.length c0] 24)) (.cells #[.int .i64 d2.1, .slice A2 d2.2.length c2] 27))) hx1) hx2) hx3)) (hF4 b hb))) (fun b hb => Nat.le_trans (size_of_ext (trans_ext (trans_ext (trans_ext (trans_ext (trans_ext (trans_ext (alloc_ext w (.cells #[.slice A0 d0.length c0] 24)) (alloc_ext (w.alloc (.cells #[.slice A0 d0.length c0] 24)) (.cells #[.int .i64 d2.1, .slice A2 d2.2.length c2] 27))) hx1) hx2) hx3) hx4) (alloc_ext w4 (.cells #[.slice A4 d0.length c4] 32)))) (hF5 b hb))) hx14) (fun b hb => Nat.le_trans (size_of_ext (trans_ext (trans_ext (trans_ext (trans_ext (trans_ext (trans_ext (trans_ext (trans_ext (alloc_ext w (.cells #[.slice A0 d0.length c0] 24)) (alloc_ext (w.alloc (.cells #[.slice A0 d0.length c0] 24)) (.cells #[.int .i64 d2.1, .slice A2 d2.2.length c2] 27))) hx1) hx2) hx3) hx4) (alloc_ext w4 (.cells #[.slice A4 d0.length c4] 32))) hx5) (alloc_ext w5 (.cells #[.int .i64 d2.1, .slice A5 d2.2.length c5] 36)))) (hF6 b hb))) hx16) (by refine x'z ?_; repeat (with_reducible (first | exact x'a _ _ | exact x'b _ | exact x'c (by assumption) | refine x'd ?_ (by assumption) | refine x'e ?_ _ | refine x'f ?_ _ | refine x'g ?_ | refine x'h ?_ ?_ _ | refine x'i ?_ _ | refine x'j ?_ | refine x'k ?_ _ | refine x'l ?_ _ _ | refine x'm ?_ | assumption | (refine x'n ?_; omega) | omega)))))).mono ?_; rintro e w17 ⟨v17, F17, rfl, hx17, hS17, hN17, hF17⟩; obtain ⟨A17, c17, rfl⟩ := sDb_form hS17; have hz17 : w16.heap.size ≤ w17.heap.size := size_of_ext (by refine x'z ?_; repeat (with_reducible (first | exact x'a _ _ | exact x'b _ | exact x'c (by assumption) | refine x'd ?_ (by assumption) | refine x'e ?_ _ | refine x'f ?_ _ | refine x'g ?_ | refine x'h ?_ ?_ _ | refine x'i ?_ _ | refine x'j ?_ | refine x'k ?_ _ | refine x'l ?_ _ _ | refine x'm ?_ | assumption | (refine x'n ?_; omega) | omega))); (first | (have L0_17 : BoxAt w17 w16.heap.size #[.slice none 0 0] := BoxAt.toExt (BoxAt.new w16 _ _) hx17; obtain ⟨z0_l17, z0_a17, z0_f17⟩ := bx1 L0_17) | (have L0_17 : BoxAt w17 w16.heap.size #[.slice none 0 0] := BoxAt.toExt (BoxAt.new w16.drew _ _) hx17; obtain ⟨z0_l17, z0_a17, z0_f17⟩ := bx1 L0_17) | (have L0_17 : BoxAt w17 w16.heap.size #[.slice none 0 0] := BoxAt.toExt (BoxAt.new w16 _ _).drew hx17; obtain ⟨z0_l17, z0_a17, z0_f17⟩ := bx1 L0_17) | skip)) | (go_at_call_of 8 (A2); refine (toRelation_d s2 (VD.toExt r2 (trans_ext (trans_ext (hC15.isExt (trans_ext (hC13.isExt (hC12.isExt (trans_ext (trans_ext (trans_ext (trans_ext (trans_ext (trans_ext (trans_ext (trans_ext (trans_ext (trans_ext (trans_ext (trans_ext (trans_ext (trans_ext (trans_ext (trans_ext (trans_ext (alloc_ext w (.cells #[.slice A0 d0.length c0] 24)) (alloc_ext (w.alloc (.cells #[.slice A0 d0.length c0] 24)) (.cells #[.int .i64 d2.1, .slice A2 d2.2.length c2] 27))) hx1) hx2) hx3) hx4) (alloc_ext w4 (.cells #[.slice A4 d0.length c4] 32))) hx5) (alloc_ext w5 (.cells #[.int .i64 d2.1, .slice A5 d2.2.length c5] 36))) hx6) (alloc_ext w6 (.cells #[.slice A6 ((setD d0 t1 d2).1).length c6] 32))) hx7) (drew_ext w7)) hx8) hx9) (drew_ext w9)) hx10) hx11) (fun b hb => Nat.le_trans (size_of_ext (trans_ext (trans_ext (trans_ext (trans_ext (alloc_ext w (.cells #[.slice A0 d0.length c0] 24)) (alloc_ext (w.alloc (.cells #[.slice A0 d0.length c0] 24)) (.cells #[.int .i64 d2.1, .slice A2 d2.2.length c2] 27))) hx1) hx2) hx3)) (hF4 b hb))) (fun b hb => Nat.le_trans (size_of_ext (trans_ext (trans_ext (trans_ext (trans_ext (trans_ext (trans_ext (alloc_ext w (.cells #[.slice A0 d0.length c0] 24)) (alloc_ext (w.alloc (.cells #[.slice A0 d0.length c0] 24)) (.cells #[.int .i64 d2.1, .slice A2 d2.2.length c2] 27))) hx1) hx2) hx3) hx4) (alloc_ext w4 (.cells #[.slice A4 d0.length c4] 32)))) (hF5 b hb))) hx14) (fun b hb => Nat.le_trans (size_of_ext (trans_ext (trans_ext (trans_ext (trans_ext (trans_ext (trans_ext (trans_ext (trans_ext (alloc_ext w (.cells #[.slice A0 d0.length c0] 24)) (alloc_ext (w.alloc (.cells #[.slice A0 d0.length c0] 24)) (.cells #[.int .i64 d2.1, .slice A2 d2.2.length c2] 27))) hx1) hx2) hx3) hx4) (alloc_ext w4 (.cells #[.slice A4 d0.length c4] 32))) hx5) (alloc_ext w5 (.cells #[.int .i64 d2.1, .slice A5 d2.2.length c5] 36)))) (hF6 b hb))) hx16) (by refine x'z ?_; repeat (with_reducible (first | exact x'a _ _ | exact x'b _ | exact x'c (by assumption) | refine x'd ?_ (by assumption) | refine x'e ?_ _ | refine x'f ?_ _ | refine x'g ?_ | refine x'h ?_ ?_ _ | refine x'i ?_ _ | refine x'j ?_ | refine x'k ?_ _ | refine x'l ?_ _ _ | refine x'm ?_ | assumption | (refine x'n ?_; omega) | omega)))))).mono ?_; rintro e w18 ⟨v18, u18, F18, rfl, hx18, hS18, hN18, hF18⟩; obtain ⟨A18, c18, rfl, rfl⟩ := sRel_form' hS18; have hz18 : w17.heap.size ≤ w18.heap.size := size_of_ext (by refine x'z ?_; repeat (with_reducible (first | exact x'a _ _ | exact x'b _ | exact x'c (by assumption) | refine x'd ?_ (by assumption) | refine x'e ?_ _ | refine x'f ?_ _ | refine x'g ?_ | refine x'h ?_ ?_ _ | refine x'i ?_ _ | refine x'j ?_ | refine x'k ?_ _ | refine x'l ?_ _ _ | refine x'm ?_ | assumption | (refine x'n ?_; omega) | omega))); (first | (have L0_18 : BoxAt w18 w16.heap.size #[.slice none 0 0] := BoxAt.toExt L0_17 hx18; obtain ⟨z0_l18, z0_a18, z0_f18⟩ := bx1 L0_18) | skip); (first | (have L1_18 : BoxAt w18 w17.heap.size #[.slice none 0 0] := BoxAt.toExt (BoxAt.new w17 _ _) hx18; obtain ⟨z1_l18, z1_a18, z1_f18⟩ := bx1 L1_18) | (have L1_18 : BoxAt w18 w17.heap.size #[.slice none 0 0] := BoxAt.toExt (BoxAt.new w17.drew _ _) hx18; obtain ⟨z1_l18, z1_a18, z1_f18⟩ := bx1 L1_18) | (have L1_18 : BoxAt w18 w17.heap.size #[.slice none 0 0] := BoxAt.toExt (BoxAt.new w17 _ _).drew hx18; obtain ⟨z1_l18, z1_a18, z1_f18⟩ := bx1 L1_18) | skip)) | (go_at_call 9; refine (SetRelation_any (BDb.w s0) (vDb_get (sDb_v _ _ _ (OD.toExt hS17 (by refine x'z ?_; repeat (with_reducible (first | exact x'a _ _ | exact x'b _ | exact x'c (by assumption) | refine x'd ?_ (by assumption) | refine x'e ?_ _ | refine x'f ?_ _ | refine x'g ?_ | refine x'h ?_ ?_ _ | refine x'i ?_ _ | refine x'j ?_ | refine x'k ?_ _ | refine x'l ?_ _ _ | refine x'm ?_ | assumption | (refine x'n ?_; omega) | omega)))))).2.1 s0.1.1 (by omega) s2 (sRel_v _ _ _ (OD.toExt hS18 (by refine x'z ?_; repeat (with_reducible (first | exact x'a _ _ | exact x'b _ | exact x'c (by assumption) | refine x'd ?_ (by assumption) | refine x'e ?_ _ | refine x'f ?_ _ | refine x'g ?_ | refine x'h ?_ ?_ _ | refine x'i ?_ _ | refine x'j ?_ | refine x'k ?_ _ | refine x'l ?_ _ _ | refine x'm ?_ | assumption | (refine x'n ?_; omega) | omega)))))).mono ?_; rintro e w19 ⟨v19, F19, rfl, hx19, hS19, hN19, hF19⟩; obtain ⟨A19, c19, rfl⟩ := sDb_form hS19; have hz19 : w18.heap.size ≤ w19.heap.size := size_of_ext (by refine x'z ?_; repeat (with_reducible (first | exact x'a _ _ | exact x'b _ | exact x'c (by assumption) | refine x'd ?_ (by assumption) | refine x'e ?_ _ | refine x'f ?_ _ | refine x'g ?_ | refine x'h ?_ ?_ _ | refine x'i ?_ _ | refine x'j ?_ | refine x'k ?_ _ | refine x'l ?_ _ _ | refine x'm ?_ | assumption | (refine x'n ?_; omega) | omega))); (first | (have L0_19 : BoxAt w19 w16.heap.size #[.slice none 0 0] := BoxAt.toExt L0_18 hx19; obtain ⟨z0_l19, z0_a19, z0_f19⟩ := bx1 L0_19) | skip); (first | (have L1_19 : BoxAt w19 w17.heap.size #[.slice none 0 0] := BoxAt.toExt L1_18 hx19; obtain ⟨z1_l19, z1_a19, z1_f19⟩ := bx1 L1_19) | skip); (first | (have L2_19 : BoxAt w19 w18.heap.size #[.slice none 0 0] := BoxAt.toExt (BoxAt.new w18 _ _) hx19; obtain ⟨z2_l19, z2_a19, z2_f19⟩ := bx1 L2_19) | (have L2_19 : BoxAt w19 w18.heap.size #[.slice none 0 0] := BoxAt.toExt (BoxAt.new w18.drew _ _) hx19; obtain ⟨z2_l19, z2_a19, z2_f19⟩ := bx1 L2_19) | (have L2_19 : BoxAt w19 w18.heap.size #[.slice none 0 0] := BoxAt.toExt (BoxAt.new w18 _ _).drew hx19; obtain ⟨z2_l19, z2_a19, z2_f19⟩ := bx1 L2_19) | skip)))
    all_goals
      go_wp2_with fail
      go_meet
      have hl19 := SMono.lt hS19
      have hdr : w16.drew.heap.size = w16.heap.size := rfl
      have hG19 : ∀ x ∈ F19, w18.heap.size ≤ x := fun x hx => Nat.le_trans (size_of_ext (by refine x'z ?_; repeat (with_reducible (first | exact x'a _ _ | exact x'b _ | exact x'c (by assumption) | refine x'd ?_ (by assumption) | refine x'e ?_ _ | refine x'f ?_ _ | refine x'g ?_ | refine x'h ?_ ?_ _ | refine x'i ?_ _ | refine x'j ?_ | refine x'k ?_ _ | refine x'l ?_ _ _ | refine x'm ?_ | assumption | (refine x'n ?_; omega) | omega)))) (hF19 x hx)
      first
        | exact ⟨w19.heap.size, A19, c19, F19, rfl, rfl, BoxAt.new _ _ _, OD.toExt hS19 (alloc_ext _ _), hN19, fun x hx => ⟨by have := hG19 x hx; omega, by have := hl19 x hx; omega⟩, by omega, (by refine x'z ?_; repeat (with_reducible (first | exact x'a _ _ | exact x'b _ | exact x'c (by assumption) | refine x'd ?_ (by assumption) | refine x'e ?_ _ | refine x'f ?_ _ | refine x'g ?_ | refine x'h ?_ ?_ _ | refine x'i ?_ _ | refine x'j ?_ | refine x'k ?_ _ | refine x'l ?_ _ _ | refine x'm ?_ | assumption | (refine x'n ?_; omega) | omega)))⟩
        | exact ⟨w16.heap.size, A19, c19, F19, rfl, rfl, (by repeat (with_reducible (first | assumption | exact BoxAt.new _ _ _ | apply BoxAt.set10 | apply BoxAt.set2 | refine BoxAt.set2' ?_ (by omega) | apply BoxAt.setP0 | apply BoxAt.setP1 | refine BoxAt.setO ?_ (by omega) | refine BoxAt.alloc ?_ _ | refine BoxAt.drew ?_ | refine BoxAt.toExt ?_ (by assumption)))), OD.chg (G := [w16.heap.size]) hS19 (by repeat (with_reducible (first | exact Chg.refl _ _ | refine Chg.trans0 ?_ (by assumption) | refine Chg.extS ?_ _ | refine Chg.alloc ?_ _ | refine Chg.drew ?_ | refine Chg.setCell ?_ (.inl (by simp)) _))) (fun x hx hm => by have := hG19 x hx; have h9 := L0_18.1; rw [List.mem_singleton.1 hm] at this; omega), hN19, fun x hx => ⟨by have := hG19 x hx; omega, by have := hG19 x hx; have h9 := L0_18.1; omega⟩, by omega, (by refine x'z ?_; repeat (with_reducible (first | exact x'a _ _ | exact x'b _ | exact x'c (by assumption) | refine x'd ?_ (by assumption) | refine x'e ?_ _ | refine x'f ?_ _ | refine x'g ?_ | refine x'h ?_ ?_ _ | refine x'i ?_ _ | refine x'j ?_ | refine x'k ?_ _ | refine x'l ?_ _ _ | refine x'm ?_ | assumption | (refine x'n ?_; omega) | omega)))⟩
        | exact ⟨w17.heap.size, A19, c19, F19, rfl, rfl, (by repeat (with_reducible (first | assumption | exact BoxAt.new _ _ _ | apply BoxAt.set10 | apply BoxAt.set2 | refine BoxAt.set2' ?_ (by omega) | apply BoxAt.setP0 | apply BoxAt.setP1 | refine BoxAt.setO ?_ (by omega) | refine BoxAt.alloc ?_ _ | refine BoxAt.drew ?_ | refine BoxAt.toExt ?_ (by assumption)))), OD.chg (G := [w17.heap.size]) hS19 (by repeat (with_reducible (first | exact Chg.refl _ _ | refine Chg.trans0 ?_ (by assumption) | refine Chg.extS ?_ _ | refine Chg.alloc ?_ _ | refine Chg.drew ?_ | refine Chg.setCell ?_ (.inl (by simp)) _))) (fun x hx hm => by have := hG19 x hx; have h9 := L1_18.1; rw [List.mem_singleton.1 hm] at this; omega), hN19, fun x hx => ⟨by have := hG19 x hx; omega, by have := hG19 x hx; have h9 := L1_18.1; omega⟩, by omega, (by refine x'z ?_; repeat (with_reducible (first | exact x'a _ _ | exact x'b _ | exact x'c (by assumption) | refine x'd ?_ (by assumption) | refine x'e ?_ _ | refine x'f ?_ _ | refine x'g ?_ | refine x'h ?_ ?_ _ | refine x'i ?_ _ | refine x'j ?_ | refine x'k ?_ _ | refine x'l ?_ _ _ | refine x'm ?_ | assumption | (refine x'n ?_; omega) | omega)))⟩
        | exact ⟨w18.heap.size, A19, c19, F19, rfl, rfl, (by repeat (with_reducible (first | assumption | exact BoxAt.new _ _ _ | apply BoxAt.set10 | apply BoxAt.set2 | refine BoxAt.set2' ?_ (by omega) | apply BoxAt.setP0 | apply BoxAt.setP1 | refine BoxAt.setO ?_ (by omega) | refine BoxAt.alloc ?_ _ | refine BoxAt.drew ?_ | refine BoxAt.toExt ?_ (by assumption)))), OD.chg (G := [w18.heap.size]) hS19 (by repeat (with_reducible (first | exact Chg.refl _ _ | refine Chg.trans0 ?_ (by assumption) | refine Chg.extS ?_ _ | refine Chg.alloc ?_ _ | refine Chg.drew ?_ | refine Chg.setCell ?_ (.inl (by simp)) _))) (fun x hx hm => by have := hF19 x hx; rw [World.size_alloc] at this; rw [List.mem_singleton.1 hm] at this; omega), hN19, fun x hx => ⟨by have := hG19 x hx; omega, by have := hF19 x hx; rw [World.size_alloc] at this; omega⟩, by omega, (by refine x'z ?_; repeat (with_reducible (first | exact x'a _ _ | exact x'b _ | exact x'c (by assumption) | refine x'd ?_ (by assumption) | refine x'e ?_ _ | refine x'f ?_ _ | refine x'g ?_ | refine x'h ?_ ?_ _ | refine x'i ?_ _ | refine x'j ?_ | refine x'k ?_ _ | refine x'l ?_ _ _ | refine x'm ?_ | assumption | (refine x'n ?_; omega) | omega)))⟩
  obtain ⟨bb17, A17, c17, F17, rfl, rfl, BB17, hS17, hN17, hD17, hbb17, hx17⟩ := hcut
  obtain ⟨w17, rfl⟩ : ∃ W, W = wc := ⟨_, rfl⟩
  have hF17 : ∀ x ∈ F17, w16.heap.size ≤ x := fun x hx => (hD17 x hx).1
  have B17_0 : BoxAt w17 (w.heap.size) #[.slice A0 d0.length c0] := B16_0.toExt hx17
  have B17_1 : BoxAt w17 (w.heap.size + 1) #[.int .i64 d2.1, .slice A2 d2.2.length c2] := B16_1.toExt hx17
  have B17_2 : BoxAt w17 (bb3) #[.slice A3 ((setD d0 t1 d2).1).length c3] := B16_2.toExt hx17
  have B17_3 : BoxAt w17 (w4.heap.size) #[.slice A4 d0.length c4] := B16_3.toExt hx17
  have B17_4 : BoxAt w17 (w5.heap.size) #[.int .i64 d2.1, .slice A5 d2.2.length c5] := B16_4.toExt hx17
  have B17_5 : BoxAt w17 (w6.heap.size) #[.slice A6 ((setD d0 t1 d2).1).length c6] := B16_5.toExt hx17
  have B17_6 := BB17
  have lB17_0 := B17_0.1
  have bB17_0 := B17_0.2.1
  have lB17_1 := B17_1.1
  have bB17_1 := B17_1.2.1
  have lB17_2 := B17_2.1
  have bB17_2 := B17_2.2.1
  have lB17_3 := B17_3.1
  have bB17_3 := B17_3.2.1
  have lB17_4 := B17_4.1
  have bB17_4 := B17_4.2.1
  have lB17_5 := B17_5.1
  have bB17_5 := B17_5.2.1
  have lB17_6 := B17_6.1
  have bB17_6 := B17_6.2.1
  clear lB16_0 bB16_0 lB16_1 bB16_1 lB16_2 bB16_2 lB16_3 bB16_3 lB16_4 bB16_4 lB16_5 bB16_5
  go_wp2_with fail
  refine (eqDatabase_d hb9 (sDb_v _ _ _ hS17) hb9 (sDb_v _ _ _ (OD.toExt (OD.toExt (OD.chg (OD.toExt (OD.chg (OD.chg (OD.toExt (OD.toExt (OD.toExt (OD.toExt (OD.toExt (OD.toExt (OD.toExt (OD.toExt (OD.toExt (OD.toExt (OD.toExt (OD.toExt (OD.toExt hS3 hx4) (alloc_ext w4 (.cells #[.slice A4 d0.length c4] 32))) hx5) (alloc_ext w5 (.cells #[.int .i64 d2.1, .slice A5 d2.2.length c5] 36))) hx6) (alloc_ext w6 (.cells #[.slice A6 ((setD d0 t1 d2).1).length c6] 32))) hx7) (drew_ext w7)) hx8) hx9) (drew_ext w9)) hx10) hx11) hC12 (fun x ha hb => by have h1 := hF4 x hb; have h2 := (SMono.lt hS3) x ha; have h3 := size_of_ext (refl_ext w3); omega)) hC13 (fun x ha hb => by have h1 := hF5 x hb; have h2 := (SMono.lt hS3) x ha; have h3 := size_of_ext (trans_ext hx4 (alloc_ext w4 (.cells #[.slice A4 d0.length c4] 32))); omega)) hx14) hC15 (fun x ha hb => by have h1 := hF6 x hb; have h2 := (SMono.lt hS3) x ha; have h3 := size_of_ext (trans_ext (trans_ext (trans_ext hx4 (alloc_ext w4 (.cells #[.slice A4 d0.length c4] 32))) hx5) (alloc_ext w5 (.cells #[.int .i64 d2.1, .slice A5 d2.2.length c5] 36))); omega)) hx16) hx17))).mono ?_
  rintro e w18 ⟨rfl, hx18⟩
  have B18_0 : BoxAt w18 (w.heap.size) #[.slice A0 d0.length c0] := (B17_0.toExt hx18)
  have B18_1 : BoxAt w18 (w.heap.size + 1) #[.int .i64 d2.1, .slice A2 d2.2.length c2] := (B17_1.toExt hx18)
  have B18_2 : BoxAt w18 (bb3) #[.slice A3 ((setD d0 t1 d2).1).length c3] := (B17_2.toExt hx18)
  have B18_3 : BoxAt w18 (w4.heap.size) #[.slice A4 d0.length c4] := (B17_3.toExt hx18)
  have B18_4 : BoxAt w18 (w5.heap.size) #[.int .i64 d2.1, .slice A5 d2.2.length c5] := (B17_4.toExt hx18)
  have B18_5 : BoxAt w18 (w6.heap.size) #[.slice A6 ((setD d0 t1 d2).1).length c6] := (B17_5.toExt hx18)
  have B18_6 : BoxAt w18 (bb17) #[.slice A17 ((setD d0 t1 d2).1).length c17] := (B17_6.toExt hx18)
  have lB18_0 := B18_0.1
  have bB18_0 := B18_0.2.1
  have lB18_1 := B18_1.1
  have bB18_1 := B18_1.2.1
  have lB18_2 := B18_2.1
  have bB18_2 := B18_2.2.1
  have lB18_3 := B18_3.1
  have bB18_3 := B18_3.2.1
  have lB18_4 := B18_4.1
  have bB18_4 := B18_4.2.1
  have lB18_5 := B18_5.1
  have bB18_5 := B18_5.2.1
  have lB18_6 := B18_6.1
  have bB18_6 := B18_6.2.1
  clear lB17_0 bB17_0 lB17_1 bB17_1 lB17_2 bB17_2 lB17_3 bB17_3 lB17_4 bB17_4 lB17_5 bB17_5 lB17_6 bB17_6
  go_wp2_with fail
  refine (heldDatabase_d hb9 HK15 (sDb_v _ _ _ (OD.toExt (OD.toExt (OD.toExt hS15 hx16) hx17) hx18)) (by omega) (by omega)).mono ?_
  rintro e w19 ⟨rfl, hx19⟩
  have B19_0 : BoxAt w19 (w.heap.size) #[.slice A0 d0.length c0] := (B18_0.toExt hx19)
  have B19_1 : BoxAt w19 (w.heap.size + 1) #[.int .i64 d2.1, .slice A2 d2.2.length c2] := (B18_1.toExt hx19)
  have B19_2 : BoxAt w19 (bb3) #[.slice A3 ((setD d0 t1 d2).1).length c3] := (B18_2.toExt hx19)
  have B19_3 : BoxAt w19 (w4.heap.size) #[.slice A4 d0.length c4] := (B18_3.toExt hx19)
  have B19_4 : BoxAt w19 (w5.heap.size) #[.int .i64 d2.1, .slice A5 d2.2.length c5] := (B18_4.toExt hx19)
  have B19_5 : BoxAt w19 (w6.heap.size) #[.slice A6 ((setD d0 t1 d2).1).length c6] := (B18_5.toExt hx19)
  have B19_6 : BoxAt w19 (bb17) #[.slice A17 ((setD d0 t1 d2).1).length c17] := (B18_6.toExt hx19)
  have lB19_0 := B19_0.1
  have bB19_0 := B19_0.2.1
  have lB19_1 := B19_1.1
  have bB19_1 := B19_1.2.1
  have lB19_2 := B19_2.1
  have bB19_2 := B19_2.2.1
  have lB19_3 := B19_3.1
  have bB19_3 := B19_3.2.1
  have lB19_4 := B19_4.1
  have bB19_4 := B19_4.2.1
  have lB19_5 := B19_5.1
  have bB19_5 := B19_5.2.1
  have lB19_6 := B19_6.1
  have bB19_6 := B19_6.2.1
  clear lB18_0 bB18_0 lB18_1 bB18_1 lB18_2 bB18_2 lB18_3 bB18_3 lB18_4 bB18_4 lB18_5 bB18_5 lB18_6 bB18_6
  go_wp2
  go_ret
  exact ⟨rfl, (trans_ext (trans_ext (trans_ext (trans_ext (hC15.isExt (trans_ext (hC13.isExt (hC12.isExt (trans_ext (trans_ext (trans_ext (trans_ext (trans_ext (trans_ext (trans_ext (trans_ext (trans_ext (trans_ext (trans_ext (trans_ext (trans_ext (trans_ext (trans_ext (trans_ext (trans_ext (alloc_ext w (.cells #[.slice A0 d0.length c0] 24)) (alloc_ext (w.alloc (.cells #[.slice A0 d0.length c0] 24)) (.cells #[.int .i64 d2.1, .slice A2 d2.2.length c2] 27))) hx1) hx2) hx3) hx4) (alloc_ext w4 (.cells #[.slice A4 d0.length c4] 32))) hx5) (alloc_ext w5 (.cells #[.int .i64 d2.1, .slice A5 d2.2.length c5] 36))) hx6) (alloc_ext w6 (.cells #[.slice A6 ((setD d0 t1 d2).1).length c6] 32))) hx7) (drew_ext w7)) hx8) hx9) (drew_ext w9)) hx10) hx11) (fun b hb => Nat.le_trans (size_of_ext (trans_ext (trans_ext (trans_ext (trans_ext (alloc_ext w (.cells #[.slice A0 d0.length c0] 24)) (alloc_ext (w.alloc (.cells #[.slice A0 d0.length c0] 24)) (.cells #[.int .i64 d2.1, .slice A2 d2.2.length c2] 27))) hx1) hx2) hx3)) (hF4 b hb))) (fun b hb => Nat.le_trans (size_of_ext (trans_ext (trans_ext (trans_ext (trans_ext (trans_ext (trans_ext (alloc_ext w (.cells #[.slice A0 d0.length c0] 24)) (alloc_ext (w.alloc (.cells #[.slice A0 d0.length c0] 24)) (.cells #[.int .i64 d2.1, .slice A2 d2.2.length c2] 27))) hx1) hx2) hx3) hx4) (alloc_ext w4 (.cells #[.slice A4 d0.length c4] 32)))) (hF5 b hb))) hx14) (fun b hb => Nat.le_trans (size_of_ext (trans_ext (trans_ext (trans_ext (trans_ext (trans_ext (trans_ext (trans_ext (trans_ext (alloc_ext w (.cells #[.slice A0 d0.length c0] 24)) (alloc_ext (w.alloc (.cells #[.slice A0 d0.length c0] 24)) (.cells #[.int .i64 d2.1, .slice A2 d2.2.length c2] 27))) hx1) hx2) hx3) hx4) (alloc_ext w4 (.cells #[.slice A4 d0.length c4] 32))) hx5) (alloc_ext w5 (.cells #[.int .i64 d2.1, .slice A5 d2.2.length c5] 36)))) (hF6 b hb))) hx16) hx17) hx18) hx19)⟩
theorem law_SetRelation (A0 : Option Addr) (c0 : Nat) (d0 : Dbd) (t1 : ByteArray) (A2 : Option Addr) (c2 : Nat) (d2 : Rd) (w : World) (q0 : QDb d0) (r0 : vDb w [.slice A0 d0.length c0] d0) (q2 : QRel d2) (r2 : vRel w [.int .i64 d2.1, .slice A2 d2.2.length c2] d2) : Calls Try.prog 3 #[.agg #[.slice A0 d0.length c0], .string t1, .agg #[.int .i64 d2.1, .slice A2 d2.2.length c2]] w fun e w' => e = .returned (.bool true) ∧ ∃ y, w' = ext w y := by
  by_cases hg0 : 1048576 < t1.size
  · exact law_SetRelation_g0 _ _ _ _ _ _ _ w hg0
  by_cases hz0 : 0 ≤ szN szTb (1048576) d0
  · have hy0 : szN szTb (1048576) d0 ≤ 1048576 := szDb_le hz0
    by_cases hz1 : 0 ≤ szN szI (szN szTb (1048576) d0) d2.2
    · have hy1 : szN szI (szN szTb (1048576) d0) d2.2 ≤ 1048576 := Int.le_trans (szRel_le hz1) hy0
      have b09 := szDb_small q0 hz0 (by omega)
      have b29 := szRel_small q2.1 hz1 (by omega)
      exact law_SetRelation_m _ _ _ _ _ _ _ w q0 r0 q2 r2 hz0 hy0 hz1 hy1 (b09) (by omega) (b29)
    · exact law_SetRelation_z1 _ _ _ _ _ _ _ w q0 r0 q2 r2 (by omega) hz0 hy0 (by omega)
  · exact law_SetRelation_z0 _ _ _ _ _ _ _ w q0 r0 (by omega) (by omega)
set_option maxRecDepth 100000 in
theorem lifted_FnExactSetRelation (os : Os) (started : os.Started) (H : Type) (enc : TypeId × Value → H) :
    ReturnsInHanded {} Try.checked os 3 .any (Rows.fnExactSetRelationSpec.pre6 enc Try.prog Try.f3 Rows.fnExactSetRelationRow.domain false) (Rows.fnExactSetRelationSpec.post enc Try.prog Try.f3 false true false false) := by
  refine returnsInHanded_of_change (C := Try.checked) Try.own started (by kernel_rfl) Try.func3 (ChangeSpec.witness6 (enc := enc) (C := Try.checked) false ⟨#[], #[.agg #[.slice none 0 0], .string ⟨#[]⟩, .agg #[.int .i64 0, .slice none 0 0]], []⟩ 8 (by kernel_rfl) (by kernel_rfl) (by kernel_rfl) (by kernel_rfl)) ?_
  intro W base args ds gs before hval0 hW hcnd _
  have hval : ∀ (j : Nat) t v, Try.f3.params[j]? = some t → args[j]? = some v → Value.okWide Try.prog W .any base t v := hval0
  clear hval0 hcnd
  obtain ⟨_, _, hA0, hV0, _, _, _⟩ := id hW
  have hA : DataW.TrodAll enc Try.prog W 0 (fun _ => true) true Try.f3.params.toList args.toList ds _ := hA0
  clear hA0
  rw [Try.params3] at hA hval
  obtain ⟨v0, v1, v2, d0, d1, d2, p0, p1, p2, rfl, rfl, e9, h0, h1, h2⟩ := trodAll_three hA
  obtain ⟨cs0, rfl, _⟩ := okWide_struct Try.underlying24 (hval 0 _ v0 rfl rfl)
  obtain ⟨d0, r0, qq0⟩ := openArg oDb h0
  obtain ⟨A0, c0, hc0⟩ := vDb_shape r0
  obtain rfl := agg1 hc0
  obtain ⟨t1, rfl, rfl, rfl, _⟩ := Go.ChangeMaps.open_string Try.underlying9 (hval 1 9 v1 rfl rfl) h1
  obtain ⟨cs2, rfl, _⟩ := okWide_struct Try.underlying27 (hval 2 _ v2 rfl rfl)
  obtain ⟨d2, r2, qq2⟩ := openArg oRel h2
  obtain ⟨A2, c2, hc2⟩ := vRel_shape' r2
  obtain rfl := agg2 hc2
  refine (law_SetRelation A0 c0 d0 t1 A2 c2 d2 W qq0 r0 qq2 r2).mono fun e W' ⟨he, hw⟩ => ?_
  exact ⟨_, he, law_post Try.laidOut hW rfl rfl rfl Try.underlying4 (by kernel_rfl) hw⟩
theorem fnExactSetRelation_and {a b : Bool} (ha : a = true) (hb : b = true) : (a && b) = true := by rw [ha, hb]; rfl
set_option maxHeartbeats 16000000 in
theorem fnExactSetRelation_closed : joinedFacts Try.checked.prog 3 Try.f3 Rows.fnExactSetRelationSpec Rows.fnExactSetRelationRow = true := by
  unfold joinedFacts
  repeat' (with_reducible refine fnExactSetRelation_and ?_ ?_)
  all_goals (as_aux_lemma => kernel_rfl)
theorem fnExactSetRelation_holds : Rows.FnExactSetRelationSaid :=
  OpenClaim.holds_of_wide 3 Try.f3 rfl rfl rfl rfl rfl rfl rfl ⟨rfl, rfl, rfl, rfl, rfl⟩ rfl rfl rfl rfl rfl (by kernel_rfl) Try.func3 fnExactSetRelation_closed
    (of_decide_eq_true (by kernel_rfl)) (by unfold Func.isWrapper; rw [if_neg (of_decide_eq_false (by kernel_rfl))]; exact ⟨rfl, rfl⟩)
    (fun os started H enc _ => lifted_FnExactSetRelation os started H enc)
end Go.Proofs.Ytgnmpjjlclbieaa
