/- Contracts of functions that the statement reaches. -/
import Derived.Deep.DeepCutAuto
import Derived.Deep.CutBlock
import Derived.Deep.RegionHeld3
import Derived.Test.YtgnmpjjlclbieaaT02
import Derived.Test.YtgnmpjjlclbieaaT07
import Derived.Test.YtgnmpjjlclbieaaT08
namespace Go.Proofs.Ytgnmpjjlclbieaa
open Go.RowKit
theorem sTb_1 (w : World) (c : List Value) (d : Td) (F : List Nat) (h : sTb w c d F) : ∀ u ∈ c, u.oneCell' = true := by
  obtain ⟨A, n, rfl⟩ := sTb_list h
  simp [Value.oneCell']
def DbPair (p : Dbd × Bool) (w : World) (e : Ending) (w' : World) : Prop := ∃ v F, e = .returned (.tuple #[.agg #[v], .bool p.2]) ∧ (∃ y, w' = ext w y) ∧ sDb w' [v] p.1 F ∧ F.Nodup ∧ ∀ b ∈ F, w.heap.size ≤ b
theorem app3_1 {W6 w0 w1 : World} {B0 : Nat} {G1 F1 : List Nat} (x0 : ∃ y, w0 = ext W6 y) (hB : W6.heap.size ≤ B0) (hC : Chg [B0] w0 w1) (hF : ∀ b ∈ F1, b ∈ [B0] ∨ b ∈ G1 ∨ w0.heap.size ≤ b) : (∃ y, w1 = ext W6 y) ∧ ∀ b ∈ F1, b ∈ G1 ∨ W6.heap.size ≤ b := by
  have hz := size_of_ext x0
  refine ⟨hC.isExt x0 (by simpa using hB), fun b hb => ?_⟩
  rcases hF b hb with h | h | h
  · rw [List.mem_singleton.1 h]; exact .inr hB
  · exact .inl h
  · exact .inr (by omega)
theorem app3_2 {W6 w1 wc w2 : World} {n : Nat} {G1 F1 F2 F5 : List Nat} (x1 : ∃ y, w1 = ext W6 y) (xc : ∃ y, wc = ext w1 y) (h36 : n ≤ W6.heap.size) (hC : Chg F1 wc w2) (n1 : ∀ b ∈ F1, b ∈ G1 ∨ W6.heap.size ≤ b) (hF : ∀ b ∈ F2, b ∈ F1 ∨ b ∈ F5 ∨ wc.heap.size ≤ b) (h5 : ∀ b ∈ F5, n ≤ b) : (∀ b ∈ F2, b ∈ G1 ∨ b ∈ F5 ∨ W6.heap.size ≤ b) ∧ (∀ b ∈ F2, b ∈ G1 ∨ n ≤ b) ∧ Chg G1 W6 w2 := by
  have hz := size_of_ext (trans_ext x1 xc)
  have h1 : ∀ b ∈ F2, b ∈ G1 ∨ b ∈ F5 ∨ W6.heap.size ≤ b := fun b hb => by
    rcases hF b hb with h | h | h
    · rcases n1 b h with h | h
      · exact .inl h
      · exact .inr (.inr h)
    · exact .inr (.inl h)
    · exact .inr (.inr (by omega))
  refine ⟨h1, fun b hb => ?_, (Chg.ofExt (trans_ext x1 xc)).trans hC n1⟩
  rcases h1 b hb with h | h | h
  · exact .inl h
  · exact .inr (h5 b h)
  · exact .inr (by omega)
theorem app3_3 {W6 wd w3 w2 : World} {n : Nat} {F9 G1 G2 F2 F3 F5 : List Nat} (c2 : Chg G1 W6 w2) (xd : ∃ y, wd = ext w2 y) (h36 : n ≤ W6.heap.size) (hg1 : ∀ b ∈ G1, b ∈ F9) (hg2 : ∀ b ∈ G2, b ∈ F9) (hC : Chg F2 wd w3) (m2 : ∀ b ∈ F2, b ∈ G1 ∨ b ∈ F5 ∨ W6.heap.size ≤ b) (h5 : ∀ b ∈ F5, n ≤ b) (hF : ∀ b ∈ F3, b ∈ F2 ∨ b ∈ G2 ∨ wd.heap.size ≤ b) : (∀ b ∈ F3, b ∈ F9 ∨ n ≤ b) ∧ Chg (F9 ++ F5) W6 w3 := by
  have hz := c2.size
  have hz2 := size_of_ext xd
  refine ⟨fun b hb => ?_, ((c2.trans0 xd).mono (fun x hx => .inl (List.mem_append_left _ (hg1 x hx)))).trans hC fun x hx => ?_⟩
  · rcases hF b hb with h | h | h
    · rcases m2 b h with h | h | h
      · exact .inl (hg1 b h)
      · exact .inr (h5 b h)
      · exact .inr (by omega)
    · exact .inl (hg2 b h)
    · exact .inr (by omega)
  · rcases m2 x hx with h | h | h
    · exact .inl (List.mem_append_left _ (hg1 x h))
    · exact .inl (List.mem_append_right _ h)
    · exact .inr h
theorem app3_n5 {n m : Nat} {F1 F5 G1 : List Nat} (h1 : F1.Nodup) (h5 : F5.Nodup) (n1 : ∀ b ∈ F1, b ∈ G1 ∨ m ≤ b) (hg : ∀ b ∈ G1, b < n) (hn : ∀ b ∈ F5, n ≤ b) (hm : ∀ b ∈ F5, b < m) : (F1 ++ F5).Nodup := List.nodup_append.2 ⟨h1, h5, fun a ha b hb e => by
  have k1 := hn b hb
  have k2 := hm b hb
  rcases n1 a ha with h | h
  · have := hg a h; omega
  · omega⟩
theorem app3_n2 {n : Nat} {F2 G1 G2 : List Nat} (h2 : F2.Nodup) (g2 : G2.Nodup) (n2 : ∀ b ∈ F2, b ∈ G1 ∨ n ≤ b) (hd : ∀ b ∈ G2, b ∉ G1) (hg : ∀ b ∈ G2, b < n) : (F2 ++ G2).Nodup := List.nodup_append.2 ⟨h2, g2, fun a ha b hb e => by
  subst e
  rcases n2 a ha with h | h
  · exact hd a hb h
  · have := hg a hb; omega⟩
def CutSR (d : Dbd) (name : ByteArray) (r : Rd) (b8 : Nat) (W : World) (wx : World) : Prop := ∃ A8 c8 F8, BoxAt wx b8 #[.slice A8 (insT name r d).length c8] ∧ SV 46 3 sTb wx (.slice A8 (insT name r d).length c8) (insT name r d) F8 ∧ F8.Nodup ∧ (∀ b ∈ F8, W.heap.size ≤ b) ∧ ∃ y, wx = ext W y
theorem WDb.ins {d : Dbd} (h : WDb d) {name : ByteArray} {r : Rd} (hn : name.size ≤ 1000000000) (hl : d.length ≤ 100000000) (h1 : r.2.length ≤ 1000000000) (h2 : ∀ x ∈ r.2, x.length ≤ 1000000000) : WDb (insT name r d) := by
  have hx : ∀ x ∈ insT name r d, x = (name, r) ∨ x ∈ d := fun x hx => mem_insT hx
  refine ⟨by have := insT_length name r d; omega, fun x m => ?_, fun x m => ?_, fun x m => ?_⟩
  · rcases hx x m with rfl | k
    · exact hn
    · exact h.nm x k
  · rcases hx x m with rfl | k
    · exact h1
    · exact h.rn x k
  · rcases hx x m with rfl | k
    · exact h2
    · exact h.rl x k
set_option maxRecDepth 100000 in
set_option maxHeartbeats 16000000 in
theorem SetRelation_any {A B : Option Addr} {c e : Nat} {d : Dbd} {name : ByteArray} {r : Rd} {w : World} (hd : WDb d) (h1 : RV 3 vTb w A d) (hdl : d.length ≤ 1048576) (hnm : name.size ≤ 1000000000) (hb : BRel r) (h2 : vRel w [.int .i64 r.1, .slice B r.2.length e] r) :
    Calls Try.prog 9 #[.agg #[.slice A d.length c], .string name, .agg #[.int .i64 r.1, .slice B r.2.length e]] w (DbPair (setD d name r) w) := by
  have HD := Lib.hid hd
  have hrn : r.2.length ≤ 1000000000 := by have := hb.2.1; omega
  have HRL := Lib.hid hb.2.big
  have hv2 := (vII_get (vRel_get h2).2).2
  obtain ⟨t, ht⟩ : ∃ t, dbB d = t := ⟨_, rfl⟩
  have HT := Lib.hid ht
  clear hd ht hb h2
  go_enter Try.func9, Try.ntmps9
  go_upto_region 1 with fail
  refine wp_name ?_
  intro W hW
  have xW : ∃ y, W = ext w y := by rw [hW.out]; exact (by refine x'z ?_; repeat (with_reducible (first | exact x'a _ _ | exact x'b _ | exact x'c (by assumption) | refine x'd ?_ (by assumption) | refine x'e ?_ _ | refine x'f ?_ _ | refine x'g ?_ | refine x'h ?_ ?_ _ | refine x'i ?_ _ | refine x'j ?_ | refine x'k ?_ _ | refine x'l ?_ _ _ | refine x'm ?_ | assumption | (refine x'n ?_; omega) | omega)))
  have BW0 : BoxAt W (w.heap.size) #[.slice A d.length c] := by rw [hW.out]; refine ⟨?_, fun j => ?_, fun j => ?_⟩ <;> go_simp
  obtain ⟨lW0, bW0, fW0⟩ := BW0
  have cW0_0 : W.cell? ⟨w.heap.size, 0, none⟩ = some (.slice A d.length c) := bW0 0
  have BW1 : BoxAt W (w.heap.size + 1) #[.int .i64 r.1, .slice B r.2.length e] := by rw [hW.out]; refine ⟨?_, fun j => ?_, fun j => ?_⟩ <;> go_simp
  obtain ⟨lW1, bW1, fW1⟩ := BW1
  have cW1_0 : W.cell? ⟨w.heap.size + 1, 0, none⟩ = some (.int .i64 r.1) := bW1 0
  have cW1_1 : W.cell? ⟨w.heap.size + 1, 1, none⟩ = some (.slice B r.2.length e) := bW1 1
  have BW2 : BoxAt W (w.heap.size + 1 + 1) #[.slice none 0 0] := by rw [hW.out]; refine ⟨?_, fun j => ?_, fun j => ?_⟩ <;> go_simp
  obtain ⟨lW2, bW2, fW2⟩ := BW2
  have cW2_0 : W.cell? ⟨w.heap.size + 1 + 1, 0, none⟩ = some (.slice none 0 0) := bW2 0
  clear hW
  have HP : Hid (BoxAt W w.heap.size #[.slice A d.length c]) := Lib.hid ⟨lW0, bW0, fW0⟩
  have HQ : Hid (BoxAt W (w.heap.size + 1) #[.int .i64 r.1, .slice B r.2.length e]) := Lib.hid ⟨lW1, bW1, fW1⟩
  have HR : Hid (BoxAt W (w.heap.size + 1 + 1) #[.slice none 0 0]) := Lib.hid ⟨lW2, bW2, fW2⟩
  clear bW0 fW0 bW1 fW1 bW2 fW2 cW1_0 cW1_1 cW2_0
  cases t with
  | false =>
    have HZ := Lib.hid (setD_bad (name := name) (r := r) HT.out)
    go_wp2_with (first
      | (go_at_call 21; refine (IsValidDatabase_w HD.out (h1.toExt xW)).mono ?_; rintro e w10 ⟨rfl, hx10⟩; rw [HT.out]; obtain ⟨lp10, pp10, fp10⟩ := bx1 (HP.out.toExt hx10))
      | (go_at_call 22; refine (copyDatabase_any HD.out (h1.toExt (trans_ext xW hx10))).mono ?_; rintro e w11 ⟨v9, F9, rfl, hx11, hS9, hN9, hF9⟩; obtain ⟨A9, c9, rfl⟩ := sDb_form hS9; have R9 := HR.out.toExt (trans_ext hx10 hx11); obtain ⟨lr9, r90, fr9⟩ := bx1 R9))
    have hzw10 := size_of_ext hx10
    have HXW := Lib.hid (trans_ext xW (trans_ext hx10 hx11))
    have hX := HXW.out
    refine bodyPost_ret (v := .tuple #[.agg #[.slice A9 d.length c9], .bool false]) (by simp [results, Try.results9, go_sem, *]) rfl ⟨_, F9, by rw [HZ.out], (by refine x'z ?_; repeat (with_reducible (first | exact x'a _ _ | exact x'b _ | exact x'c (by assumption) | refine x'd ?_ (by assumption) | refine x'e ?_ _ | refine x'f ?_ _ | refine x'g ?_ | refine x'h ?_ ?_ _ | refine x'i ?_ _ | refine x'j ?_ | refine x'k ?_ _ | refine x'l ?_ _ _ | refine x'm ?_ | assumption | (refine x'n ?_; omega) | omega))), by rw [HZ.out]; exact OD.chg (G := [w.heap.size + 1 + 1]) hS9 (by repeat (with_reducible (first | exact Chg.refl _ _ | refine Chg.trans0 ?_ (by assumption) | refine Chg.extS ?_ _ | refine Chg.alloc ?_ _ | refine Chg.drew ?_ | refine Chg.setCell ?_ (.inl (by simp)) _))) (fun b hb h => by have := hF9 b hb; rw [List.mem_singleton.1 h] at this; omega), hN9, fun b hb => by have := hF9 b hb; omega⟩
  | true =>
    go_upto_region 3 with (go_at_call 21; refine (IsValidDatabase_w HD.out (h1.toExt xW)).mono ?_; rintro e w10 ⟨rfl, hx10⟩; rw [HT.out]; obtain ⟨lp10, pp10, fp10⟩ := bx1 (HP.out.toExt hx10))
    go_upto_region 4 with (go_at_call 22; refine (copyDatabase_any HD.out (h1.toExt (trans_ext xW hx10))).mono ?_; rintro e w9 ⟨v9, F9, rfl, hx9, hS9, hN9, hF9⟩; obtain ⟨A9, c9, rfl⟩ := sDb_form hS9)
    refine wp_name ?_
    intro W3 hW3
    have x93 : ∃ y, W3 = ext w9 y := by rw [hW3.out]; exact (by refine x'z ?_; repeat (with_reducible (first | exact x'a _ _ | exact x'b _ | exact x'c (by assumption) | refine x'd ?_ (by assumption) | refine x'e ?_ _ | refine x'f ?_ _ | refine x'g ?_ | refine x'h ?_ ?_ _ | refine x'i ?_ _ | refine x'j ?_ | refine x'k ?_ _ | refine x'l ?_ _ _ | refine x'm ?_ | assumption | (refine x'n ?_; omega) | omega)))
    have B8 : BoxAt W3 w9.heap.size #[.slice A9 d.length c9] := by rw [hW3.out]; exact (by repeat (with_reducible (first | assumption | exact BoxAt.new _ _ _ | apply BoxAt.set10 | apply BoxAt.set2 | refine BoxAt.set2' ?_ (by omega) | apply BoxAt.setP0 | apply BoxAt.setP1 | refine BoxAt.setO ?_ (by omega) | refine BoxAt.alloc ?_ _ | refine BoxAt.drew ?_ | refine BoxAt.toExt ?_ (by assumption))))
    have xW9 := trans_ext hx10 hx9
    have xW3 := trans_ext xW9 x93
    have HX3 := Lib.hid (trans_ext xW xW3)
    obtain ⟨v9', ev9, S9⟩ := hS9
    injection ev9 with ev9
    subst ev9
    have H8F : Hid (∀ b ∈ F9, b < w9.heap.size) := Lib.hid S9.lt
    have HS3 := Lib.hid (S9.toExt x93)
    have HN9 := Lib.hid hN9
    have hz10 := size_of_ext hx10
    have hz9 := size_of_ext xW9
    have HF9W : Hid (∀ b ∈ F9, W.heap.size ≤ b) := Lib.hid (fun b hb => by have := hF9 b hb; omega)
    obtain ⟨b8, q8⟩ : ∃ b, w9.heap.size = b := ⟨_, rfl⟩
    rw [q8] at B8 H8F hz9 ⊢
    have h83 : b8 < W3.heap.size := B8.1
    have HB3 := Lib.hid B8
    obtain ⟨lb3, kb3, fb3⟩ := bx1 B8
    obtain ⟨lq3, kq3, kq3', fq3⟩ := bx2 (HQ.out.toExt xW3)
    obtain ⟨_, _, eA, hcc, hcm, rS3⟩ := HS3.out.view sTb_v
    injection eA with eA _ eC
    subst eA eC
    have hW3s := size_of_ext xW3
    clear hW3 x93 xW9 hx9 hx10 B8 q8 S9 hN9 hF9 lp10 pp10 fp10 hz10 lW0 lW1 cW0_0
    go_upto_block 0 with fail
    go_cut [9] (fun v wx => ∃ k : Nat, v = .int .i64 k ∧ (k ≤ d.length ∧ (∀ j, j < k → sLt (d.getD j zT).1 name = true) ∧ (k < d.length → sLt (d.getD k zT).1 name = false)) ∧ wx = W3)
    case first =>
      go_wp2_with fail
      go_loop [9] (fun i => ∃ k : Nat, i = .int .i64 k ∧ k ≤ d.length ∧ Hid (∀ j, j < k → sLt (d.getD j zT).1 name = true)) (fun i => d.length - (intOf i).toNat)
      case atStart => exact ⟨0, rfl, by omega, Lib.hid (fun j hj => by omega)⟩
      case round =>
        obtain ⟨k, rfl, hk, HL⟩ := hrel
        by_cases hlt : k < d.length
        · obtain ⟨g, o, A1, c1, eA9, hgl, hc, hc1, hc2, hvx⟩ := rS3.atT hlt
          subst eA9
          clear hc1 hc2 hvx
          obtain ⟨x, hx⟩ : ∃ x, d[k].1 = x := ⟨_, rfl⟩
          rw [hx] at hc
          have HX := Lib.hid (show (d.getD k zT).1 = x by rw [getDl _ _ hlt]; exact hx)
          by_cases hs : sLt x name = true
          · have hs2 : Op.bytesLess x.toList name.toList = true := hs
            have HL2 : Hid (∀ j, j < k + 1 → sLt (d.getD j zT).1 name = true) := Lib.hid (fun j hj => by
              by_cases e : j = k
              · subst e
                rw [HX.out]
                exact hs
              · exact HL.out j (by omega))
            clear hs hx
            go_wp2
            exact ⟨⟨k + 1, by go_num, by omega, HL2⟩, by simp [intOf]; omega⟩
          · have hs2 : Op.bytesLess x.toList name.toList = false := by simpa [sLt] using hs
            have HS2 := Lib.hid hs2
            clear hs hx
            go_wp2
            go_meet
            exact ⟨k, rfl, ⟨hk, HL.out, fun _ => by rw [HX.out]; exact HS2.out⟩, rfl⟩
        · go_wp2
          go_meet
          exact ⟨k, rfl, ⟨hk, HL.out, fun h => absurd h hlt⟩, rfl⟩
    obtain ⟨k, rfl, hkk, eW⟩ := hcut
    have eW := eW.symm
    subst eW
    have hk := hkk.1
    have HKK := Lib.hid hkk.2
    clear hkk
    go_upto_region 7 with fail
    go_upto_region 8 with (go_at_call 23; refine (copyRelation_any hrn HRL.out (hv2.toExt HX3.out)).mono ?_; rintro e w5 ⟨u5, v5, F5, rfl, hx5, hS5, hN5, hF5⟩; obtain ⟨A5, c5, rfl, rfl, _⟩ := sRel_form hS5)
    refine wp_name ?_
    intro W6 hW6
    have x56 : ∃ y, W6 = ext w5 y := by rw [hW6.out]; exact (by refine x'z ?_; repeat (with_reducible (first | exact x'a _ _ | exact x'b _ | exact x'c (by assumption) | refine x'd ?_ (by assumption) | refine x'e ?_ _ | refine x'f ?_ _ | refine x'g ?_ | refine x'h ?_ ?_ _ | refine x'i ?_ _ | refine x'j ?_ | refine x'k ?_ _ | refine x'l ?_ _ _ | refine x'm ?_ | assumption | (refine x'n ?_; omega) | omega)))
    have T6 : BoxAt W6 w5.heap.size #[.string name, .int .i64 r.1, .slice A5 r.2.length c5] := by rw [hW6.out]; exact (by repeat (with_reducible (first | assumption | exact BoxAt.new _ _ _ | apply BoxAt.set3 | refine BoxAt.set3' ?_ (by omega) | apply BoxAt.set30 | apply BoxAt.set31 | apply BoxAt.set32 | apply BoxAt.set2 | refine BoxAt.set2' ?_ (by omega) | apply BoxAt.setP0 | apply BoxAt.setP1 | refine BoxAt.setO ?_ (by omega) | refine BoxAt.alloc ?_ _ | refine BoxAt.drew ?_ | refine BoxAt.toExt ?_ (by assumption))))
    have x36 := trans_ext hx5 x56
    have HX6 := Lib.hid (trans_ext xW3 x36)
    have HS5 : Hid (sRel W6 [.int .i64 r.1, .slice A5 r.2.length c5] r F5) := Lib.hid (OD.toExt hS5 x56)
    have HN5 := Lib.hid hN5
    have HF5 := Lib.hid hF5
    have HL5 : Hid (∀ b ∈ F5, b < W6.heap.size) := Lib.hid (SMono.lt HS5.out)
    have HL5w : Hid (∀ b ∈ F5, b < w5.heap.size) := Lib.hid (SMono.lt hS5)
    have hz35 := size_of_ext hx5
    have HB6 := Lib.hid (HB3.out.toExt x36)
    have HS6 := Lib.hid (HS3.out.toExt x36)
    have hz36 := size_of_ext x36
    have H9 : Hid (∀ b ∈ F9, b < W3.heap.size) := Lib.hid HS3.out.lt
    have HT6 := Lib.hid T6
    obtain ⟨lt6, t60, t61, t62, ft6⟩ := box3 T6
    obtain ⟨lb6, kb6, fb6⟩ := bx1 HB6.out
    clear hW6 hS5 hN5 hF5 hx5 x56 lb3 kb3 fb3
    obtain ⟨tt, htt⟩ : ∃ t, decide (k < d.length ∧ (d.getD k zT).1 = name) = t := ⟨_, rfl⟩
    have HTT := Lib.hid htt
    clear htt
    go_cut [53] (fun v wx => v = .bool tt ∧ wx = W6)
    case first =>
      by_cases hlt : k < d.length
      · obtain ⟨g, o, A1, c1, eA9, hgl, hc, hc1, hc2, hvx⟩ := (rS3.toExt x36).atT hlt
        subst eA9
        clear hc1 hc2 hvx
        obtain ⟨x, hx⟩ : ∃ x, d[k].1 = x := ⟨_, rfl⟩
        rw [hx] at hc
        by_cases he : x = name
        · have hbb : (x.toList == name.toList) = true := str_beqt he
          have HE := Lib.hid (show tt = true by rw [← HTT.out, decide_eq_true ⟨hlt, by rw [getDl _ _ hlt, hx]; exact he⟩])
          clear he hx
          go_wp2_with fail
          go_meet
          exact ⟨by rw [HE.out], rfl⟩
        · have hbb : (x.toList == name.toList) = false := str_beqf he
          have HE := Lib.hid (show tt = false by rw [← HTT.out, decide_eq_false (fun h => he (by rw [← hx, ← getDl d zT hlt]; exact h.2))])
          clear he hx
          go_wp2_with fail
          go_meet
          exact ⟨by rw [HE.out], rfl⟩
      · have HE := Lib.hid (show tt = false by rw [← HTT.out, decide_eq_false (fun h => hlt h.1)])
        go_wp2_with fail
        go_meet
        exact ⟨by rw [HE.out], rfl⟩
    obtain ⟨rfl, eW⟩ := hcut
    have eW := eW.symm
    subst eW
    go_upto_if 53 with fail
    go_cut [] (fun wx => CutSR d name r b8 W wx)
    case first =>
      cases tt with
      | true =>
        obtain ⟨hlt, hne⟩ := of_decide_eq_true HTT.out
        have HINS := Lib.hid (ins_hit (r := r) hlt HKK.out.1 (by rw [getDl _ _ hlt] at hne; exact hne))
        obtain ⟨g, cap', eA9, hgF, _, _⟩ := HS3.out.block (by intro h; rw [h] at hlt; simp at hlt)
        injection eA9 with eA9 _ eC9
        subst eA9 eC9
        clear hne
        obtain ⟨F8, S8, cg8, N8, n8, hgF9⟩ := HS6.out.swap3 rfl (List.nodup_append.2 ⟨HN9.out, HN5.out, fun a ha b hb e => by have h1 := H9.out a ha; have h2 := HF5.out b hb; omega⟩) hlt (sTb_mk (s := name) HS5.out)
        obtain ⟨⟨u0, hu0⟩, hf0, hg0⟩ := HS6.out.cell rfl (j := k * 3) (by omega)
        obtain ⟨⟨u1, hu1⟩, hf1, _⟩ := HS6.out.cell rfl (j := k * 3 + 1) (by omega)
        obtain ⟨⟨u2, hu2⟩, hf2, _⟩ := HS6.out.cell rfl (j := k * 3 + 2) (by omega)
        have hg8 : b8 ≠ g := fun e => by have := H8F.out g hgF9; omega
        have HF := Lib.hid (show CutSR d name r b8 W (((W6.setCell ⟨g, k * 3, none⟩ (.string name)).setCell ⟨g, k * 3 + 1, none⟩ (.int .i64 r.1)).setCell ⟨g, k * 3 + 2, none⟩ (.slice A5 r.2.length c5)) from by
          refine ⟨some ⟨g, 0, none⟩, c9, F8, ?_, ?_, N8, ?_, cg8.isExt HX6.out (fun x hx => by rw [List.mem_singleton.1 hx]; exact HF9W.out g hgF9)⟩
          · rw [HINS.out, List.length_set]; exact HB6.out.chg cg8 (by simpa using hg8)
          · rw [HINS.out, List.length_set]; exact S8
          · intro b hb
            rcases n8 b hb with h | h
            · exact HF9W.out b h
            · have := HF5.out b h; omega)
        clear S8 cg8 N8 n8 hgF9 hg8
        go_wp2_with fail
        go_meet
        exact HF.out
      | false =>
        have HINS := Lib.hid (show insT name r d = d.take k ++ [(name, r)] ++ d.drop k from by
          have hf := of_decide_eq_false HTT.out
          by_cases hlt : k < d.length
          · refine ins_new hlt HKK.out.1 ?_ ?_
            · have := HKK.out.2 hlt
              rwa [getDl _ _ hlt] at this
            · intro h
              exact hf ⟨hlt, by rw [getDl _ _ hlt]; exact h⟩
          · exact ins_end (by omega) HKK.out.1)
        have i0 : (0 : Int) ≤ (k : Int) := by omega
        have i1 : (k : Int) ≤ (d.length : Int) := by omega
        have i2 : (k : Int) ≤ (c9 : Int) := by omega
        have i3 : k ≤ c9 := by omega
        obtain ⟨G1, G2, hg1, hg2, m1, m2, m3, hA, L1, L2⟩ := HS6.out.cut2 sTb_1 HN9.out (k := k) (by omega)
        have HG1 := Lib.hid hg1
        have HG2 := Lib.hid hg2
        have HM1 := Lib.hid m1
        have HM2 := Lib.hid m2
        have HM3 := Lib.hid (show ∀ b ∈ G2, b ∉ G1 from fun b hb h => m3 b h hb)
        have HA := Lib.hid hA
        have HL1 := Lib.hid L1
        clear hg1 hg2 m1 m2 m3 hA L1
        by_cases hck : c9 = k
        · have hdk : d.drop k = [] := List.drop_eq_nil_of_le (by omega)
          have hck0 : c9 - k = 0 := by omega
          have HL2 : Hid (Lie 3 sTb W6 A9 (d.drop k) []) := Lib.hid (by rw [hdk]; exact Lie.nil)
          have HA2 : Hid (∀ ad, A9 = some ad → ad.block < W6.heap.size ∧ ad.block ∉ G1) := Lib.hid (fun ad e => ⟨(HA.out ad e).1, (HA.out ad e).2.1⟩)
          have HG2' : Hid (∀ b ∈ ([] : List Nat), b ∈ F9) := Lib.hid (by simp)
          have HM2' : Hid ([] : List Nat).Nodup := Lib.hid (by simp)
          have HM3' : Hid (∀ b ∈ ([] : List Nat), b ∉ G1) := Lib.hid (by simp)
          clear L2 hdk
          obtain rfl : k = c9 := hck.symm
          have HTK := Lib.hid (show k = (d.take k).length by simp; omega)
          have HDK := Lib.hid (show 0 = (d.drop k).length by have := List.length_drop (i := k) (l := d); omega)
          have H89 := Lib.hid (show b8 ∉ F9 ++ F5 from fun h => by
            rcases List.mem_append.1 h with h | h
            · have := H8F.out b8 h; omega
            · have := HF5.out b8 h; omega)
          have HG13 := Lib.hid (show ∀ b ∈ G1, b < W3.heap.size from fun b hb => H9.out b (HG1.out b hb))
          have HG19 := Lib.hid (show ∀ b ∈ G1, b < W6.heap.size from fun b hb => by have := H9.out b (HG1.out b hb); omega)
          have HG23 := Lib.hid (show ∀ b ∈ ([] : List Nat), b < W3.heap.size from fun b hb => H9.out b (HG2'.out b hb))
          have h81 : b8 ∉ G1 := fun h => by have := H8F.out b8 (HG1.out b8 h); omega
          have h10G : w5.heap.size ∉ G1 := fun h => by have := HG13.out _ h; omega
          have h10F : w5.heap.size ∉ F9 ++ F5 := fun h => by
            rcases List.mem_append.1 h with h | h
            · have := H9.out _ h; omega
            · have := HL5w.out _ h; omega
          have n10 : w5.heap.size ≠ b8 := by omega
          have n10' : b8 ≠ w5.heap.size := by omega
          go_upto_region 10 with fail
          refine wp_region_last (S := (fun w' => w'.cell? ⟨b8, 0, none⟩ = some (.slice A9 d.length k) ∧ w'.cell? ⟨w5.heap.size, 0, none⟩ = some (.string name) ∧ w'.cell? ⟨w5.heap.size, 1, none⟩ = some (.int .i64 r.1) ∧ w'.cell? ⟨w5.heap.size, 2, none⟩ = some (.slice A5 r.2.length c5))) 15 (by kernel_rfl) (by kernel_rfl) ?_ (fun hHeld => ?_)
          · ((try dsimp only); go_keep)
          refine wpAnyH_take (i := 1) (v := ?_) (by simp only [List.getElem?_toArray, List.getElem?_cons_succ, List.getElem?_cons_zero]; rfl) (by kernel_rfl) (by kernel_rfl) (by kernel_rfl) (by exact fun _ _ _ h => h) (Or.inl ⟨by rfl, ?_⟩) (by assumption) ?_
          rotate_left
          · (intro wS hSw; (try dsimp only at hSw); go_simp; try (with_reducible rfl))
          try simp only [Act.put, List.setIfInBounds_toArray, List.set_cons_zero, List.set_cons_succ]
          refine wpAnyH_take (i := 2) (v := ?_) (by simp only [List.getElem?_toArray, List.getElem?_cons_succ, List.getElem?_cons_zero]; rfl) (by kernel_rfl) (by kernel_rfl) (by kernel_rfl) (by exact fun _ _ _ h => h) (Or.inl ⟨by rfl, ?_⟩) (by assumption) ?_
          rotate_left
          · (intro wS hSw; (try dsimp only at hSw); go_simp; try (with_reducible rfl))
          try simp only [Act.put, List.setIfInBounds_toArray, List.set_cons_zero, List.set_cons_succ]
          refine wpAnyH_take (i := 3) (v := ?_) (by simp only [List.getElem?_toArray, List.getElem?_cons_succ, List.getElem?_cons_zero]; rfl) (by kernel_rfl) (by kernel_rfl) (by kernel_rfl) (by exact fun _ _ _ h => h) (Or.inl ⟨by rfl, ?_⟩) (by assumption) ?_
          rotate_left
          · (intro wS hSw; (try dsimp only at hSw); go_simp; try (with_reducible rfl))
          try simp only [Act.put, List.setIfInBounds_toArray, List.set_cons_zero, List.set_cons_succ]
          refine wpAnyH_take (i := 4) (v := ?_) (by simp only [List.getElem?_toArray, List.getElem?_cons_succ, List.getElem?_cons_zero]; rfl) (by kernel_rfl) (by kernel_rfl) (by kernel_rfl) (by exact fun _ _ _ h => h) (Or.inl ⟨by rfl, ?_⟩) (by assumption) ?_
          rotate_left
          · (intro wS hSw; (try dsimp only at hSw); go_simp; try (with_reducible rfl))
          try simp only [Act.put, List.setIfInBounds_toArray, List.set_cons_zero, List.set_cons_succ]
          refine wpAnyH_take (i := 6) (v := ?_) (by simp only [List.getElem?_toArray, List.getElem?_cons_succ, List.getElem?_cons_zero]; rfl) (by kernel_rfl) (by kernel_rfl) (by kernel_rfl) (by exact fun _ _ _ h => h) (Or.inl ⟨by rfl, ?_⟩) (by assumption) ?_
          rotate_left
          · (intro wS hSw; (try dsimp only at hSw); go_simp; try (with_reducible rfl))
          try simp only [Act.put, List.setIfInBounds_toArray, List.set_cons_zero, List.set_cons_succ]
          refine wpAnyH_take (i := 9) (v := ?_) (by simp only [List.getElem?_toArray, List.getElem?_cons_succ, List.getElem?_cons_zero]; rfl) (by kernel_rfl) (by kernel_rfl) (by kernel_rfl) (by exact fun _ _ _ h => h) (Or.inl ⟨by rfl, ?_⟩) (by assumption) ?_
          rotate_left
          · (intro wS hSw; (try dsimp only at hSw); go_simp; try (with_reducible rfl))
          try simp only [Act.put, List.setIfInBounds_toArray, List.set_cons_zero, List.set_cons_succ]
          refine wpAnyH_take (i := 10) (v := ?_) (by simp only [List.getElem?_toArray, List.getElem?_cons_succ, List.getElem?_cons_zero]; rfl) (by kernel_rfl) (by kernel_rfl) (by kernel_rfl) (by exact fun _ _ _ h => h) (Or.inl ⟨by rfl, ?_⟩) (by assumption) ?_
          rotate_left
          · (intro wS hSw; (try dsimp only at hSw); go_simp; try (with_reducible rfl))
          try simp only [Act.put, List.setIfInBounds_toArray, List.set_cons_zero, List.set_cons_succ]
          refine wpAnyH_take (i := 11) (v := ?_) (by simp only [List.getElem?_toArray, List.getElem?_cons_succ, List.getElem?_cons_zero]; rfl) (by kernel_rfl) (by kernel_rfl) (by kernel_rfl) (by exact fun _ _ _ h => h) (Or.inl ⟨by rfl, ?_⟩) (by assumption) ?_
          rotate_left
          · (intro wS hSw; (try dsimp only at hSw); go_simp; try (with_reducible rfl))
          try simp only [Act.put, List.setIfInBounds_toArray, List.set_cons_zero, List.set_cons_succ]
          refine wpAnyH_take (i := 12) (v := ?_) (by simp only [List.getElem?_toArray, List.getElem?_cons_succ, List.getElem?_cons_zero]; rfl) (by kernel_rfl) (by kernel_rfl) (by kernel_rfl) (by exact fun _ _ _ h => h) (Or.inl ⟨by rfl, ?_⟩) (by assumption) ?_
          rotate_left
          · (intro wS hSw; (try dsimp only at hSw); go_simp; try (with_reducible rfl))
          try simp only [Act.put, List.setIfInBounds_toArray, List.set_cons_zero, List.set_cons_succ]
          refine wpAnyH_ready (rs := [0, 7]) (by kernel_rfl) (by simp) ?_
          refine AllReadyH.cons (by simp only [List.getElem?_toArray, List.getElem?_cons_zero]; rfl) (fun K hK => ?_) (AllReadyH.cons (by simp only [List.getElem?_toArray, List.getElem?_cons_succ, List.getElem?_cons_zero]; rfl) (fun K hK => ?_) AllReadyH.nil)
          ·
            go_simp
            refine hK.out _ _ ?_ (fun hHeld2 => ?_)
            · ((try dsimp only); go_keep)
            clear hHeld hK K
            have hHeld := hHeld2
            clear hHeld2
            try simp only [Act.put, List.setIfInBounds_toArray, List.set_cons_zero, List.set_cons_succ]
            refine wpAnyH_ready (rs := [5, 7]) (by kernel_rfl) (by simp) ?_
            refine AllReadyH.cons (by simp only [List.getElem?_toArray, List.getElem?_cons_succ, List.getElem?_cons_zero]; rfl) (fun K hK => ?_) (AllReadyH.cons (by simp only [List.getElem?_toArray, List.getElem?_cons_succ, List.getElem?_cons_zero]; rfl) (fun K hK => ?_) AllReadyH.nil)
            ·
              (refine step_appP (E := sTb) (ds := []) (es := d.take k) (G := G1) (by rfl) (.tmp 59) (.tmp 63) _ (by rfl) tTb (by rfl) (SV.empty' (w := W6.drew) rfl rfl) (by simp) (by rfl) HTK.out (HL1.out.toExt (fun ad e => (HA.out ad e).1) (by refine x'z ?_; repeat (with_reducible (first | exact x'a _ _ | exact x'b _ | exact x'c (by assumption) | refine x'd ?_ (by assumption) | refine x'e ?_ _ | refine x'f ?_ _ | refine x'g ?_ | refine x'h ?_ ?_ _ | refine x'i ?_ _ | refine x'j ?_ | refine x'k ?_ _ | refine x'l ?_ _ _ | refine x'm ?_ | assumption | (refine x'n ?_; omega) | omega)))) (by rw [List.singleton_append, List.nodup_cons]; exact ⟨fun h => by have h1 := HG19.out _ h; ((try simp at h1) <;> omega), HM1.out⟩) (by simp; omega) (by omega) ?_; intro v1 w1 F1 hS1 hC1 hN1 hF1; obtain ⟨x1, n1⟩ := app3_1 (W6 := W6) (by refine x'z ?_; repeat (with_reducible (first | exact x'a _ _ | exact x'b _ | exact x'c (by assumption) | refine x'd ?_ (by assumption) | refine x'e ?_ _ | refine x'f ?_ _ | refine x'g ?_ | refine x'h ?_ ?_ _ | refine x'i ?_ _ | refine x'j ?_ | refine x'k ?_ _ | refine x'l ?_ _ _ | refine x'm ?_ | assumption | (refine x'n ?_; omega) | omega))) (by simp) hC1 hF1; obtain ⟨lb1, kb1, fb1⟩ := bx1 (HB6.out.toExt x1); obtain ⟨lt1, t10, t11, t12, ft1⟩ := box3 (HT6.out.toExt x1); have HS1 := Lib.hid hS1; have HN1 := Lib.hid hN1; have HX1 := Lib.hid x1; have H1 := Lib.hid n1; have HC1 := Lib.hid hC1; clear hS1 hN1 n1 hF1 hC1)
              refine hK.out _ _ ?_ (fun hHeld2 => ?_)
              · ((try dsimp only); go_keep)
              clear hHeld hK K
              have hHeld := hHeld2
              clear hHeld2
              try simp only [Act.put, List.setIfInBounds_toArray, List.set_cons_zero, List.set_cons_succ]
              refine wpAnyH_ready (rs := [7]) (by kernel_rfl) (by simp) ?_
              refine AllReadyH.cons (by simp only [List.getElem?_toArray, List.getElem?_cons_succ, List.getElem?_cons_zero]; rfl) (fun K hK => ?_) AllReadyH.nil
              go_simp
              refine hK.out _ _ ?_ (fun hHeld2 => ?_)
              · ((try dsimp only); go_keep)
              clear hHeld hK K
              have hHeld := hHeld2
              clear hHeld2
              try simp only [Act.put, List.setIfInBounds_toArray, List.set_cons_zero, List.set_cons_succ]
              refine wpAnyH_ready (rs := [8]) (by kernel_rfl) (by simp) ?_
              refine AllReadyH.cons (by simp only [List.getElem?_toArray, List.getElem?_cons_succ, List.getElem?_cons_zero]; rfl) (fun K hK => ?_) AllReadyH.nil
              (refine step_appB (E := sTb) (d := (name, r)) (G := F5) (cs := #[.string name, .int .i64 r.1, .slice A5 r.2.length c5]) (by rfl) (.tmp 64) (.tmp 66) _ (by rfl) tTb (by rfl) (by rfl) (BoxAt.new _ _ _) (sTb_mk (OD.toExt (OD.toExt HS5.out HX1.out) (by refine x'z ?_; repeat (with_reducible (first | exact x'a _ _ | exact x'b _ | exact x'c (by assumption) | refine x'd ?_ (by assumption) | refine x'e ?_ _ | refine x'f ?_ _ | refine x'g ?_ | refine x'h ?_ ?_ _ | refine x'i ?_ _ | refine x'j ?_ | refine x'k ?_ _ | refine x'l ?_ _ _ | refine x'm ?_ | assumption | (refine x'n ?_; omega) | omega))))) (by rfl) (by simp [Value.oneCell']) (HS1.out.toExt (by refine x'z ?_; repeat (with_reducible (first | exact x'a _ _ | exact x'b _ | exact x'c (by assumption) | refine x'd ?_ (by assumption) | refine x'e ?_ _ | refine x'f ?_ _ | refine x'g ?_ | refine x'h ?_ ?_ _ | refine x'i ?_ _ | refine x'j ?_ | refine x'k ?_ _ | refine x'l ?_ _ _ | refine x'm ?_ | assumption | (refine x'n ?_; omega) | omega)))) (app3_n5 HN1.out HN5.out H1.out HG13.out HF5.out HL5.out) (by simp; omega) (by omega) ?_; intro v2 w2 F2 hS2 hC2 hN2 hF2; obtain ⟨m2, n2, c2⟩ := app3_2 HX1.out (by refine x'z ?_; repeat (with_reducible (first | exact x'a _ _ | exact x'b _ | exact x'c (by assumption) | refine x'd ?_ (by assumption) | refine x'e ?_ _ | refine x'f ?_ _ | refine x'g ?_ | refine x'h ?_ ?_ _ | refine x'i ?_ _ | refine x'j ?_ | refine x'k ?_ _ | refine x'l ?_ _ _ | refine x'm ?_ | assumption | (refine x'n ?_; omega) | omega))) hz36 hC2 H1.out hF2 HF5.out; obtain ⟨lb2, kb2, fb2⟩ := bx1 (HB6.out.chg c2 h81); obtain ⟨lt2, t20, t21, t22, ft2⟩ := box3 (HT6.out.chg c2 h10G); have HS2 := Lib.hid hS2; have HN2 := Lib.hid hN2; have HM22 := Lib.hid m2; have H2 := Lib.hid n2; have HC2 := Lib.hid c2; clear hS2 hN2 hC2 hF2 m2 n2 c2)
              refine hK.out _ _ ?_ (fun hHeld2 => ?_)
              · ((try dsimp only); go_keep)
              clear hHeld hK K
              have hHeld := hHeld2
              clear hHeld2
              try simp only [Act.put, List.setIfInBounds_toArray, List.set_cons_zero, List.set_cons_succ]
              refine wpAnyH_ready (rs := [13]) (by kernel_rfl) (by simp) ?_
              refine AllReadyH.cons (by simp only [List.getElem?_toArray, List.getElem?_cons_succ, List.getElem?_cons_zero]; rfl) (fun K hK => ?_) AllReadyH.nil
              (refine step_appP (E := sTb) (es := d.drop k) (G := ([] : List Nat)) (by rfl) (.tmp 67) (.tmp 71) _ (by rfl) tTb (by rfl) (HS2.out.toExt (by refine x'z ?_; repeat (with_reducible (first | exact x'a _ _ | exact x'b _ | exact x'c (by assumption) | refine x'd ?_ (by assumption) | refine x'e ?_ _ | refine x'f ?_ _ | refine x'g ?_ | refine x'h ?_ ?_ _ | refine x'i ?_ _ | refine x'j ?_ | refine x'k ?_ _ | refine x'l ?_ _ _ | refine x'm ?_ | assumption | (refine x'n ?_; omega) | omega)))) HN2.out (by rfl) HDK.out ((HL2.out.chg HA2.out HC2.out HM3'.out).toExt (fun ad e => Nat.lt_of_lt_of_le (HA2.out ad e).1 HC2.out.size) (by refine x'z ?_; repeat (with_reducible (first | exact x'a _ _ | exact x'b _ | exact x'c (by assumption) | refine x'd ?_ (by assumption) | refine x'e ?_ _ | refine x'f ?_ _ | refine x'g ?_ | refine x'h ?_ ?_ _ | refine x'i ?_ _ | refine x'j ?_ | refine x'k ?_ _ | refine x'l ?_ _ _ | refine x'm ?_ | assumption | (refine x'n ?_; omega) | omega)))) (app3_n2 HN2.out HM2'.out H2.out HM3'.out HG23.out) (by simp; omega) (by omega) ?_; intro v3 w3 F3 hS3 hC3 hN3 hF3; obtain ⟨n3, c3⟩ := app3_3 HC2.out (by refine x'z ?_; repeat (with_reducible (first | exact x'a _ _ | exact x'b _ | exact x'c (by assumption) | refine x'd ?_ (by assumption) | refine x'e ?_ _ | refine x'f ?_ _ | refine x'g ?_ | refine x'h ?_ ?_ _ | refine x'i ?_ _ | refine x'j ?_ | refine x'k ?_ _ | refine x'l ?_ _ _ | refine x'm ?_ | assumption | (refine x'n ?_; omega) | omega))) hz36 HG1.out HG2'.out hC3 HM22.out HF5.out hF3; have B3 := HB6.out.chg c3 H89.out; obtain ⟨lb3, kb3, fb3⟩ := bx1 B3; obtain ⟨lt3, t30, t31, t32, ft3⟩ := box3 (HT6.out.chg c3 h10F); obtain ⟨A8, c8, rfl, _, _⟩ := hS3.form; obtain ⟨n8, hn8⟩ : ∃ n, ([] ++ d.take k ++ [(name, r)] ++ d.drop k).length = n := ⟨_, rfl⟩; rw [hn8] at hS3 ⊢; have HL8 := Lib.hid hn8; clear hn8; have HS30 := Lib.hid hS3; have HN8 := Lib.hid hN3; have HC3 := Lib.hid c3; have H3 := Lib.hid n3; have HB30 := Lib.hid B3; clear hS3 hN3 hC3 hF3 n3 c3 B3)
              refine hK.out _ _ ?_ (fun hHeld2 => ?_)
              · ((try dsimp only); go_keep)
              clear hHeld hK K
              have hHeld := hHeld2
              clear hHeld2
              try simp only [Act.put, List.setIfInBounds_toArray, List.set_cons_zero, List.set_cons_succ]
              refine wpAnyH_take (i := 14) (v := ?_) (by simp only [List.getElem?_toArray, List.getElem?_cons_succ, List.getElem?_cons_zero]; rfl) (by kernel_rfl) (by kernel_rfl) (by kernel_rfl) (by exact fun _ _ _ h => h) (Or.inl ⟨by rfl, ?_⟩) (by assumption) ?_
              rotate_left
              · (intro wS hSw; (try dsimp only at hSw); go_simp; try (with_reducible rfl))
              try simp only [Act.put, List.setIfInBounds_toArray, List.set_cons_zero, List.set_cons_succ]
              refine wpAnyH_done (by kernel_rfl) ?_ _
              refine LastQ.go (by simp only [List.getElem?_toArray, List.getElem?_cons_succ, List.getElem?_cons_zero]; rfl) (fun K hK => ?_)
              go_simp
              refine hK.out _ _ ?_
              clear hHeld hK K
              try simp only [Act.put, List.setIfInBounds_toArray, List.set_cons_zero, List.set_cons_succ]
              have e3 : [] ++ d.take k ++ [(name, r)] ++ d.drop k = insT name r d := by rw [HINS.out, List.nil_append]
              have hcw : Chg [b8] w3 (w3.setCell ⟨b8, 0, none⟩ (.slice A8 n8 c8)) := (Chg.refl [b8] w3).setCell (.inl (by simp)) _
              have HBN : Hid (BoxAt (w3.setCell ⟨b8, 0, none⟩ (.slice A8 n8 c8)) b8 #[.slice A8 n8 c8]) := Lib.hid HB30.out.set10
              have HS8 := Lib.hid (HS30.out.chg hcw (fun b hb h => by
                rw [List.mem_singleton.1 h] at hb
                rcases H3.out _ hb with h | h
                · have := H8F.out _ h; omega
                · omega))
              have HW8 := Lib.hid (show ∃ y, w3.setCell ⟨b8, 0, none⟩ (.slice A8 n8 c8) = ext W y from ((HC3.out.mono (G := b8 :: (F9 ++ F5)) (fun x hx => .inl (List.mem_cons_of_mem _ hx))).trans hcw (fun x hx => .inl (by rw [List.mem_singleton.1 hx]; simp))).isExt HX6.out (fun x hx => by
                rcases List.mem_cons.1 hx with h | h
                · omega
                · rcases List.mem_append.1 h with h | h
                  · exact HF9W.out x h
                  · have := HF5.out x h; omega))
              have HF8 := Lib.hid (show ∀ b ∈ F3, W.heap.size ≤ b from fun b hb => by
                rcases H3.out b hb with h | h
                · exact HF9W.out b h
                · omega)
              have HF := Lib.hid (show CutSR d name r b8 W (w3.setCell ⟨b8, 0, none⟩ (.slice A8 n8 c8)) from by
                refine ⟨A8, c8, F3, ?_, ?_, HN8.out, HF8.out, HW8.out⟩
                · rw [← e3, HL8.out]; exact HBN.out
                · rw [← e3, HL8.out]; exact HS8.out)
              clear hcw HBN HS8 HW8 HF8 e3 HC3 H3 HB30 HS30 HN8
              go_wp2_with fail
              go_meet
              exact HF.out
            ·
              go_simp
              refine hK.out _ _ ?_ (fun hHeld2 => ?_)
              · ((try dsimp only); go_keep)
              clear hHeld hK K
              have hHeld := hHeld2
              clear hHeld2
              try simp only [Act.put, List.setIfInBounds_toArray, List.set_cons_zero, List.set_cons_succ]
              refine wpAnyH_ready (rs := [5]) (by kernel_rfl) (by simp) ?_
              refine AllReadyH.cons (by simp only [List.getElem?_toArray, List.getElem?_cons_succ, List.getElem?_cons_zero]; rfl) (fun K hK => ?_) AllReadyH.nil
              (refine step_appP (E := sTb) (ds := []) (es := d.take k) (G := G1) (by rfl) (.tmp 59) (.tmp 63) _ (by rfl) tTb (by rfl) ((SV.empty' (w := W6) rfl rfl).toExt (by refine x'z ?_; repeat (with_reducible (first | exact x'a _ _ | exact x'b _ | exact x'c (by assumption) | refine x'd ?_ (by assumption) | refine x'e ?_ _ | refine x'f ?_ _ | refine x'g ?_ | refine x'h ?_ ?_ _ | refine x'i ?_ _ | refine x'j ?_ | refine x'k ?_ _ | refine x'l ?_ _ _ | refine x'm ?_ | assumption | (refine x'n ?_; omega) | omega)))) (by simp) (by rfl) HTK.out (HL1.out.toExt (fun ad e => (HA.out ad e).1) (by refine x'z ?_; repeat (with_reducible (first | exact x'a _ _ | exact x'b _ | exact x'c (by assumption) | refine x'd ?_ (by assumption) | refine x'e ?_ _ | refine x'f ?_ _ | refine x'g ?_ | refine x'h ?_ ?_ _ | refine x'i ?_ _ | refine x'j ?_ | refine x'k ?_ _ | refine x'l ?_ _ _ | refine x'm ?_ | assumption | (refine x'n ?_; omega) | omega)))) (by rw [List.singleton_append, List.nodup_cons]; exact ⟨fun h => by have h1 := HG19.out _ h; ((try simp at h1) <;> omega), HM1.out⟩) (by simp; omega) (by omega) ?_; intro v1 w1 F1 hS1 hC1 hN1 hF1; obtain ⟨x1, n1⟩ := app3_1 (W6 := W6) (by refine x'z ?_; repeat (with_reducible (first | exact x'a _ _ | exact x'b _ | exact x'c (by assumption) | refine x'd ?_ (by assumption) | refine x'e ?_ _ | refine x'f ?_ _ | refine x'g ?_ | refine x'h ?_ ?_ _ | refine x'i ?_ _ | refine x'j ?_ | refine x'k ?_ _ | refine x'l ?_ _ _ | refine x'm ?_ | assumption | (refine x'n ?_; omega) | omega))) (by simp) hC1 hF1; obtain ⟨lb1, kb1, fb1⟩ := bx1 (HB6.out.toExt x1); obtain ⟨lt1, t10, t11, t12, ft1⟩ := box3 (HT6.out.toExt x1); have HS1 := Lib.hid hS1; have HN1 := Lib.hid hN1; have HX1 := Lib.hid x1; have H1 := Lib.hid n1; have HC1 := Lib.hid hC1; clear hS1 hN1 n1 hF1 hC1)
              refine hK.out _ _ ?_ (fun hHeld2 => ?_)
              · ((try dsimp only); go_keep)
              clear hHeld hK K
              have hHeld := hHeld2
              clear hHeld2
              try simp only [Act.put, List.setIfInBounds_toArray, List.set_cons_zero, List.set_cons_succ]
              refine wpAnyH_ready (rs := [8]) (by kernel_rfl) (by simp) ?_
              refine AllReadyH.cons (by simp only [List.getElem?_toArray, List.getElem?_cons_succ, List.getElem?_cons_zero]; rfl) (fun K hK => ?_) AllReadyH.nil
              (refine step_appB (E := sTb) (d := (name, r)) (G := F5) (cs := #[.string name, .int .i64 r.1, .slice A5 r.2.length c5]) (by rfl) (.tmp 64) (.tmp 66) _ (by rfl) tTb (by rfl) (by rfl) (BoxAt.chg (BoxAt.drew (by have h := BoxAt.new (W6.alloc (.cells #[] 46)) #[.string name, .int .i64 r.1, .slice A5 r.2.length c5] 46; rw [World.size_alloc] at h; exact h)) HC1.out (by simp)) (sTb_mk (OD.toExt (OD.toExt HS5.out HX1.out) (by refine x'z ?_; repeat (with_reducible (first | exact x'a _ _ | exact x'b _ | exact x'c (by assumption) | refine x'd ?_ (by assumption) | refine x'e ?_ _ | refine x'f ?_ _ | refine x'g ?_ | refine x'h ?_ ?_ _ | refine x'i ?_ _ | refine x'j ?_ | refine x'k ?_ _ | refine x'l ?_ _ _ | refine x'm ?_ | assumption | (refine x'n ?_; omega) | omega))))) (by rfl) (by simp [Value.oneCell']) (HS1.out.toExt (by refine x'z ?_; repeat (with_reducible (first | exact x'a _ _ | exact x'b _ | exact x'c (by assumption) | refine x'd ?_ (by assumption) | refine x'e ?_ _ | refine x'f ?_ _ | refine x'g ?_ | refine x'h ?_ ?_ _ | refine x'i ?_ _ | refine x'j ?_ | refine x'k ?_ _ | refine x'l ?_ _ _ | refine x'm ?_ | assumption | (refine x'n ?_; omega) | omega)))) (app3_n5 HN1.out HN5.out H1.out HG13.out HF5.out HL5.out) (by simp; omega) (by omega) ?_; intro v2 w2 F2 hS2 hC2 hN2 hF2; obtain ⟨m2, n2, c2⟩ := app3_2 HX1.out (by refine x'z ?_; repeat (with_reducible (first | exact x'a _ _ | exact x'b _ | exact x'c (by assumption) | refine x'd ?_ (by assumption) | refine x'e ?_ _ | refine x'f ?_ _ | refine x'g ?_ | refine x'h ?_ ?_ _ | refine x'i ?_ _ | refine x'j ?_ | refine x'k ?_ _ | refine x'l ?_ _ _ | refine x'm ?_ | assumption | (refine x'n ?_; omega) | omega))) hz36 hC2 H1.out hF2 HF5.out; obtain ⟨lb2, kb2, fb2⟩ := bx1 (HB6.out.chg c2 h81); obtain ⟨lt2, t20, t21, t22, ft2⟩ := box3 (HT6.out.chg c2 h10G); have HS2 := Lib.hid hS2; have HN2 := Lib.hid hN2; have HM22 := Lib.hid m2; have H2 := Lib.hid n2; have HC2 := Lib.hid c2; clear hS2 hN2 hC2 hF2 m2 n2 c2)
              refine hK.out _ _ ?_ (fun hHeld2 => ?_)
              · ((try dsimp only); go_keep)
              clear hHeld hK K
              have hHeld := hHeld2
              clear hHeld2
              try simp only [Act.put, List.setIfInBounds_toArray, List.set_cons_zero, List.set_cons_succ]
              refine wpAnyH_ready (rs := [13]) (by kernel_rfl) (by simp) ?_
              refine AllReadyH.cons (by simp only [List.getElem?_toArray, List.getElem?_cons_succ, List.getElem?_cons_zero]; rfl) (fun K hK => ?_) AllReadyH.nil
              (refine step_appP (E := sTb) (es := d.drop k) (G := ([] : List Nat)) (by rfl) (.tmp 67) (.tmp 71) _ (by rfl) tTb (by rfl) (HS2.out.toExt (by refine x'z ?_; repeat (with_reducible (first | exact x'a _ _ | exact x'b _ | exact x'c (by assumption) | refine x'd ?_ (by assumption) | refine x'e ?_ _ | refine x'f ?_ _ | refine x'g ?_ | refine x'h ?_ ?_ _ | refine x'i ?_ _ | refine x'j ?_ | refine x'k ?_ _ | refine x'l ?_ _ _ | refine x'm ?_ | assumption | (refine x'n ?_; omega) | omega)))) HN2.out (by rfl) HDK.out ((HL2.out.chg HA2.out HC2.out HM3'.out).toExt (fun ad e => Nat.lt_of_lt_of_le (HA2.out ad e).1 HC2.out.size) (by refine x'z ?_; repeat (with_reducible (first | exact x'a _ _ | exact x'b _ | exact x'c (by assumption) | refine x'd ?_ (by assumption) | refine x'e ?_ _ | refine x'f ?_ _ | refine x'g ?_ | refine x'h ?_ ?_ _ | refine x'i ?_ _ | refine x'j ?_ | refine x'k ?_ _ | refine x'l ?_ _ _ | refine x'm ?_ | assumption | (refine x'n ?_; omega) | omega)))) (app3_n2 HN2.out HM2'.out H2.out HM3'.out HG23.out) (by simp; omega) (by omega) ?_; intro v3 w3 F3 hS3 hC3 hN3 hF3; obtain ⟨n3, c3⟩ := app3_3 HC2.out (by refine x'z ?_; repeat (with_reducible (first | exact x'a _ _ | exact x'b _ | exact x'c (by assumption) | refine x'd ?_ (by assumption) | refine x'e ?_ _ | refine x'f ?_ _ | refine x'g ?_ | refine x'h ?_ ?_ _ | refine x'i ?_ _ | refine x'j ?_ | refine x'k ?_ _ | refine x'l ?_ _ _ | refine x'm ?_ | assumption | (refine x'n ?_; omega) | omega))) hz36 HG1.out HG2'.out hC3 HM22.out HF5.out hF3; have B3 := HB6.out.chg c3 H89.out; obtain ⟨lb3, kb3, fb3⟩ := bx1 B3; obtain ⟨lt3, t30, t31, t32, ft3⟩ := box3 (HT6.out.chg c3 h10F); obtain ⟨A8, c8, rfl, _, _⟩ := hS3.form; obtain ⟨n8, hn8⟩ : ∃ n, ([] ++ d.take k ++ [(name, r)] ++ d.drop k).length = n := ⟨_, rfl⟩; rw [hn8] at hS3 ⊢; have HL8 := Lib.hid hn8; clear hn8; have HS30 := Lib.hid hS3; have HN8 := Lib.hid hN3; have HC3 := Lib.hid c3; have H3 := Lib.hid n3; have HB30 := Lib.hid B3; clear hS3 hN3 hC3 hF3 n3 c3 B3)
              refine hK.out _ _ ?_ (fun hHeld2 => ?_)
              · ((try dsimp only); go_keep)
              clear hHeld hK K
              have hHeld := hHeld2
              clear hHeld2
              try simp only [Act.put, List.setIfInBounds_toArray, List.set_cons_zero, List.set_cons_succ]
              refine wpAnyH_take (i := 14) (v := ?_) (by simp only [List.getElem?_toArray, List.getElem?_cons_succ, List.getElem?_cons_zero]; rfl) (by kernel_rfl) (by kernel_rfl) (by kernel_rfl) (by exact fun _ _ _ h => h) (Or.inl ⟨by rfl, ?_⟩) (by assumption) ?_
              rotate_left
              · (intro wS hSw; (try dsimp only at hSw); go_simp; try (with_reducible rfl))
              try simp only [Act.put, List.setIfInBounds_toArray, List.set_cons_zero, List.set_cons_succ]
              refine wpAnyH_done (by kernel_rfl) ?_ _
              refine LastQ.go (by simp only [List.getElem?_toArray, List.getElem?_cons_succ, List.getElem?_cons_zero]; rfl) (fun K hK => ?_)
              go_simp
              refine hK.out _ _ ?_
              clear hHeld hK K
              try simp only [Act.put, List.setIfInBounds_toArray, List.set_cons_zero, List.set_cons_succ]
              have e3 : [] ++ d.take k ++ [(name, r)] ++ d.drop k = insT name r d := by rw [HINS.out, List.nil_append]
              have hcw : Chg [b8] w3 (w3.setCell ⟨b8, 0, none⟩ (.slice A8 n8 c8)) := (Chg.refl [b8] w3).setCell (.inl (by simp)) _
              have HBN : Hid (BoxAt (w3.setCell ⟨b8, 0, none⟩ (.slice A8 n8 c8)) b8 #[.slice A8 n8 c8]) := Lib.hid HB30.out.set10
              have HS8 := Lib.hid (HS30.out.chg hcw (fun b hb h => by
                rw [List.mem_singleton.1 h] at hb
                rcases H3.out _ hb with h | h
                · have := H8F.out _ h; omega
                · omega))
              have HW8 := Lib.hid (show ∃ y, w3.setCell ⟨b8, 0, none⟩ (.slice A8 n8 c8) = ext W y from ((HC3.out.mono (G := b8 :: (F9 ++ F5)) (fun x hx => .inl (List.mem_cons_of_mem _ hx))).trans hcw (fun x hx => .inl (by rw [List.mem_singleton.1 hx]; simp))).isExt HX6.out (fun x hx => by
                rcases List.mem_cons.1 hx with h | h
                · omega
                · rcases List.mem_append.1 h with h | h
                  · exact HF9W.out x h
                  · have := HF5.out x h; omega))
              have HF8 := Lib.hid (show ∀ b ∈ F3, W.heap.size ≤ b from fun b hb => by
                rcases H3.out b hb with h | h
                · exact HF9W.out b h
                · omega)
              have HF := Lib.hid (show CutSR d name r b8 W (w3.setCell ⟨b8, 0, none⟩ (.slice A8 n8 c8)) from by
                refine ⟨A8, c8, F3, ?_, ?_, HN8.out, HF8.out, HW8.out⟩
                · rw [← e3, HL8.out]; exact HBN.out
                · rw [← e3, HL8.out]; exact HS8.out)
              clear hcw HBN HS8 HW8 HF8 e3 HC3 H3 HB30 HS30 HN8
              go_wp2_with fail
              go_meet
              exact HF.out
          ·
            go_simp
            refine hK.out _ _ ?_ (fun hHeld2 => ?_)
            · ((try dsimp only); go_keep)
            clear hHeld hK K
            have hHeld := hHeld2
            clear hHeld2
            try simp only [Act.put, List.setIfInBounds_toArray, List.set_cons_zero, List.set_cons_succ]
            refine wpAnyH_ready (rs := [0]) (by kernel_rfl) (by simp) ?_
            refine AllReadyH.cons (by simp only [List.getElem?_toArray, List.getElem?_cons_zero]; rfl) (fun K hK => ?_) AllReadyH.nil
            go_simp
            refine hK.out _ _ ?_ (fun hHeld2 => ?_)
            · ((try dsimp only); go_keep)
            clear hHeld hK K
            have hHeld := hHeld2
            clear hHeld2
            try simp only [Act.put, List.setIfInBounds_toArray, List.set_cons_zero, List.set_cons_succ]
            refine wpAnyH_ready (rs := [5]) (by kernel_rfl) (by simp) ?_
            refine AllReadyH.cons (by simp only [List.getElem?_toArray, List.getElem?_cons_succ, List.getElem?_cons_zero]; rfl) (fun K hK => ?_) AllReadyH.nil
            (refine step_appP (E := sTb) (ds := []) (es := d.take k) (G := G1) (by rfl) (.tmp 59) (.tmp 63) _ (by rfl) tTb (by rfl) (SV.empty' (w := W6.drew.alloc (.cells #[.string name, .int .i64 r.1, .slice A5 r.2.length c5] 46)) rfl (by simp)) (by simp) (by rfl) HTK.out (HL1.out.toExt (fun ad e => (HA.out ad e).1) (by refine x'z ?_; repeat (with_reducible (first | exact x'a _ _ | exact x'b _ | exact x'c (by assumption) | refine x'd ?_ (by assumption) | refine x'e ?_ _ | refine x'f ?_ _ | refine x'g ?_ | refine x'h ?_ ?_ _ | refine x'i ?_ _ | refine x'j ?_ | refine x'k ?_ _ | refine x'l ?_ _ _ | refine x'm ?_ | assumption | (refine x'n ?_; omega) | omega)))) (by rw [List.singleton_append, List.nodup_cons]; exact ⟨fun h => by have h1 := HG19.out _ h; ((try simp at h1) <;> omega), HM1.out⟩) (by simp; omega) (by omega) ?_; intro v1 w1 F1 hS1 hC1 hN1 hF1; obtain ⟨x1, n1⟩ := app3_1 (W6 := W6) (by refine x'z ?_; repeat (with_reducible (first | exact x'a _ _ | exact x'b _ | exact x'c (by assumption) | refine x'd ?_ (by assumption) | refine x'e ?_ _ | refine x'f ?_ _ | refine x'g ?_ | refine x'h ?_ ?_ _ | refine x'i ?_ _ | refine x'j ?_ | refine x'k ?_ _ | refine x'l ?_ _ _ | refine x'm ?_ | assumption | (refine x'n ?_; omega) | omega))) (by simp) hC1 hF1; obtain ⟨lb1, kb1, fb1⟩ := bx1 (HB6.out.toExt x1); obtain ⟨lt1, t10, t11, t12, ft1⟩ := box3 (HT6.out.toExt x1); have HS1 := Lib.hid hS1; have HN1 := Lib.hid hN1; have HX1 := Lib.hid x1; have H1 := Lib.hid n1; have HC1 := Lib.hid hC1; clear hS1 hN1 n1 hF1 hC1)
            refine hK.out _ _ ?_ (fun hHeld2 => ?_)
            · ((try dsimp only); go_keep)
            clear hHeld hK K
            have hHeld := hHeld2
            clear hHeld2
            try simp only [Act.put, List.setIfInBounds_toArray, List.set_cons_zero, List.set_cons_succ]
            refine wpAnyH_ready (rs := [8]) (by kernel_rfl) (by simp) ?_
            refine AllReadyH.cons (by simp only [List.getElem?_toArray, List.getElem?_cons_succ, List.getElem?_cons_zero]; rfl) (fun K hK => ?_) AllReadyH.nil
            (refine step_appB (E := sTb) (d := (name, r)) (G := F5) (cs := #[.string name, .int .i64 r.1, .slice A5 r.2.length c5]) (by rfl) (.tmp 64) (.tmp 66) _ (by rfl) tTb (by rfl) (by rfl) (BoxAt.chg (by repeat (with_reducible (first | assumption | exact BoxAt.new _ _ _ | apply BoxAt.set3 | refine BoxAt.set3' ?_ (by omega) | apply BoxAt.set30 | apply BoxAt.set31 | apply BoxAt.set32 | apply BoxAt.set2 | refine BoxAt.set2' ?_ (by omega) | apply BoxAt.setP0 | apply BoxAt.setP1 | refine BoxAt.setO ?_ (by omega) | refine BoxAt.alloc ?_ _ | refine BoxAt.drew ?_ | refine BoxAt.toExt ?_ (by assumption)))) HC1.out (by simp)) (sTb_mk (OD.toExt (OD.toExt HS5.out HX1.out) (by refine x'z ?_; repeat (with_reducible (first | exact x'a _ _ | exact x'b _ | exact x'c (by assumption) | refine x'd ?_ (by assumption) | refine x'e ?_ _ | refine x'f ?_ _ | refine x'g ?_ | refine x'h ?_ ?_ _ | refine x'i ?_ _ | refine x'j ?_ | refine x'k ?_ _ | refine x'l ?_ _ _ | refine x'm ?_ | assumption | (refine x'n ?_; omega) | omega))))) (by rfl) (by simp [Value.oneCell']) (HS1.out.toExt (by refine x'z ?_; repeat (with_reducible (first | exact x'a _ _ | exact x'b _ | exact x'c (by assumption) | refine x'd ?_ (by assumption) | refine x'e ?_ _ | refine x'f ?_ _ | refine x'g ?_ | refine x'h ?_ ?_ _ | refine x'i ?_ _ | refine x'j ?_ | refine x'k ?_ _ | refine x'l ?_ _ _ | refine x'm ?_ | assumption | (refine x'n ?_; omega) | omega)))) (app3_n5 HN1.out HN5.out H1.out HG13.out HF5.out HL5.out) (by simp; omega) (by omega) ?_; intro v2 w2 F2 hS2 hC2 hN2 hF2; obtain ⟨m2, n2, c2⟩ := app3_2 HX1.out (by refine x'z ?_; repeat (with_reducible (first | exact x'a _ _ | exact x'b _ | exact x'c (by assumption) | refine x'd ?_ (by assumption) | refine x'e ?_ _ | refine x'f ?_ _ | refine x'g ?_ | refine x'h ?_ ?_ _ | refine x'i ?_ _ | refine x'j ?_ | refine x'k ?_ _ | refine x'l ?_ _ _ | refine x'm ?_ | assumption | (refine x'n ?_; omega) | omega))) hz36 hC2 H1.out hF2 HF5.out; obtain ⟨lb2, kb2, fb2⟩ := bx1 (HB6.out.chg c2 h81); obtain ⟨lt2, t20, t21, t22, ft2⟩ := box3 (HT6.out.chg c2 h10G); have HS2 := Lib.hid hS2; have HN2 := Lib.hid hN2; have HM22 := Lib.hid m2; have H2 := Lib.hid n2; have HC2 := Lib.hid c2; clear hS2 hN2 hC2 hF2 m2 n2 c2)
            refine hK.out _ _ ?_ (fun hHeld2 => ?_)
            · ((try dsimp only); go_keep)
            clear hHeld hK K
            have hHeld := hHeld2
            clear hHeld2
            try simp only [Act.put, List.setIfInBounds_toArray, List.set_cons_zero, List.set_cons_succ]
            refine wpAnyH_ready (rs := [13]) (by kernel_rfl) (by simp) ?_
            refine AllReadyH.cons (by simp only [List.getElem?_toArray, List.getElem?_cons_succ, List.getElem?_cons_zero]; rfl) (fun K hK => ?_) AllReadyH.nil
            (refine step_appP (E := sTb) (es := d.drop k) (G := ([] : List Nat)) (by rfl) (.tmp 67) (.tmp 71) _ (by rfl) tTb (by rfl) (HS2.out.toExt (by refine x'z ?_; repeat (with_reducible (first | exact x'a _ _ | exact x'b _ | exact x'c (by assumption) | refine x'd ?_ (by assumption) | refine x'e ?_ _ | refine x'f ?_ _ | refine x'g ?_ | refine x'h ?_ ?_ _ | refine x'i ?_ _ | refine x'j ?_ | refine x'k ?_ _ | refine x'l ?_ _ _ | refine x'm ?_ | assumption | (refine x'n ?_; omega) | omega)))) HN2.out (by rfl) HDK.out ((HL2.out.chg HA2.out HC2.out HM3'.out).toExt (fun ad e => Nat.lt_of_lt_of_le (HA2.out ad e).1 HC2.out.size) (by refine x'z ?_; repeat (with_reducible (first | exact x'a _ _ | exact x'b _ | exact x'c (by assumption) | refine x'd ?_ (by assumption) | refine x'e ?_ _ | refine x'f ?_ _ | refine x'g ?_ | refine x'h ?_ ?_ _ | refine x'i ?_ _ | refine x'j ?_ | refine x'k ?_ _ | refine x'l ?_ _ _ | refine x'm ?_ | assumption | (refine x'n ?_; omega) | omega)))) (app3_n2 HN2.out HM2'.out H2.out HM3'.out HG23.out) (by simp; omega) (by omega) ?_; intro v3 w3 F3 hS3 hC3 hN3 hF3; obtain ⟨n3, c3⟩ := app3_3 HC2.out (by refine x'z ?_; repeat (with_reducible (first | exact x'a _ _ | exact x'b _ | exact x'c (by assumption) | refine x'd ?_ (by assumption) | refine x'e ?_ _ | refine x'f ?_ _ | refine x'g ?_ | refine x'h ?_ ?_ _ | refine x'i ?_ _ | refine x'j ?_ | refine x'k ?_ _ | refine x'l ?_ _ _ | refine x'm ?_ | assumption | (refine x'n ?_; omega) | omega))) hz36 HG1.out HG2'.out hC3 HM22.out HF5.out hF3; have B3 := HB6.out.chg c3 H89.out; obtain ⟨lb3, kb3, fb3⟩ := bx1 B3; obtain ⟨lt3, t30, t31, t32, ft3⟩ := box3 (HT6.out.chg c3 h10F); obtain ⟨A8, c8, rfl, _, _⟩ := hS3.form; obtain ⟨n8, hn8⟩ : ∃ n, ([] ++ d.take k ++ [(name, r)] ++ d.drop k).length = n := ⟨_, rfl⟩; rw [hn8] at hS3 ⊢; have HL8 := Lib.hid hn8; clear hn8; have HS30 := Lib.hid hS3; have HN8 := Lib.hid hN3; have HC3 := Lib.hid c3; have H3 := Lib.hid n3; have HB30 := Lib.hid B3; clear hS3 hN3 hC3 hF3 n3 c3 B3)
            refine hK.out _ _ ?_ (fun hHeld2 => ?_)
            · ((try dsimp only); go_keep)
            clear hHeld hK K
            have hHeld := hHeld2
            clear hHeld2
            try simp only [Act.put, List.setIfInBounds_toArray, List.set_cons_zero, List.set_cons_succ]
            refine wpAnyH_take (i := 14) (v := ?_) (by simp only [List.getElem?_toArray, List.getElem?_cons_succ, List.getElem?_cons_zero]; rfl) (by kernel_rfl) (by kernel_rfl) (by kernel_rfl) (by exact fun _ _ _ h => h) (Or.inl ⟨by rfl, ?_⟩) (by assumption) ?_
            rotate_left
            · (intro wS hSw; (try dsimp only at hSw); go_simp; try (with_reducible rfl))
            try simp only [Act.put, List.setIfInBounds_toArray, List.set_cons_zero, List.set_cons_succ]
            refine wpAnyH_done (by kernel_rfl) ?_ _
            refine LastQ.go (by simp only [List.getElem?_toArray, List.getElem?_cons_succ, List.getElem?_cons_zero]; rfl) (fun K hK => ?_)
            go_simp
            refine hK.out _ _ ?_
            clear hHeld hK K
            try simp only [Act.put, List.setIfInBounds_toArray, List.set_cons_zero, List.set_cons_succ]
            have e3 : [] ++ d.take k ++ [(name, r)] ++ d.drop k = insT name r d := by rw [HINS.out, List.nil_append]
            have hcw : Chg [b8] w3 (w3.setCell ⟨b8, 0, none⟩ (.slice A8 n8 c8)) := (Chg.refl [b8] w3).setCell (.inl (by simp)) _
            have HBN : Hid (BoxAt (w3.setCell ⟨b8, 0, none⟩ (.slice A8 n8 c8)) b8 #[.slice A8 n8 c8]) := Lib.hid HB30.out.set10
            have HS8 := Lib.hid (HS30.out.chg hcw (fun b hb h => by
              rw [List.mem_singleton.1 h] at hb
              rcases H3.out _ hb with h | h
              · have := H8F.out _ h; omega
              · omega))
            have HW8 := Lib.hid (show ∃ y, w3.setCell ⟨b8, 0, none⟩ (.slice A8 n8 c8) = ext W y from ((HC3.out.mono (G := b8 :: (F9 ++ F5)) (fun x hx => .inl (List.mem_cons_of_mem _ hx))).trans hcw (fun x hx => .inl (by rw [List.mem_singleton.1 hx]; simp))).isExt HX6.out (fun x hx => by
              rcases List.mem_cons.1 hx with h | h
              · omega
              · rcases List.mem_append.1 h with h | h
                · exact HF9W.out x h
                · have := HF5.out x h; omega))
            have HF8 := Lib.hid (show ∀ b ∈ F3, W.heap.size ≤ b from fun b hb => by
              rcases H3.out b hb with h | h
              · exact HF9W.out b h
              · omega)
            have HF := Lib.hid (show CutSR d name r b8 W (w3.setCell ⟨b8, 0, none⟩ (.slice A8 n8 c8)) from by
              refine ⟨A8, c8, F3, ?_, ?_, HN8.out, HF8.out, HW8.out⟩
              · rw [← e3, HL8.out]; exact HBN.out
              · rw [← e3, HL8.out]; exact HS8.out)
            clear hcw HBN HS8 HW8 HF8 e3 HC3 H3 HB30 HS30 HN8
            go_wp2_with fail
            go_meet
            exact HF.out
        · obtain ⟨g, eA⟩ : ∃ g, A9 = some ⟨g, 0, none⟩ := by
            rcases HS3.out.place with ⟨_, h⟩ | h
            · omega
            · exact h
          subst eA
          have hck0 : ¬ c9 - k = 0 := by omega
          have hkc : ¬ k = c9 := fun e => hck e.symm
          have HL2 := Lib.hid (L2 (some ⟨g, k * 3, none⟩) (fun b e => by injection e with e; injection e with e; rw [e]) (fun e => by cases e))
          have HA2 : Hid (∀ ad, (some ⟨g, k * 3, none⟩ : Option Addr) = some ad → ad.block < W6.heap.size ∧ ad.block ∉ G1) := Lib.hid (fun ad e => by
            injection e with e
            subst e
            exact ⟨(HA.out _ rfl).1, (HA.out _ rfl).2.1⟩)
          clear L2
          have HTK := Lib.hid (show k = (d.take k).length by simp; omega)
          have HDK := Lib.hid (show d.length - k = (d.drop k).length by have := List.length_drop (i := k) (l := d); omega)
          have H89 := Lib.hid (show b8 ∉ F9 ++ F5 from fun h => by
            rcases List.mem_append.1 h with h | h
            · have := H8F.out b8 h; omega
            · have := HF5.out b8 h; omega)
          have HG13 := Lib.hid (show ∀ b ∈ G1, b < W3.heap.size from fun b hb => H9.out b (HG1.out b hb))
          have HG19 := Lib.hid (show ∀ b ∈ G1, b < W6.heap.size from fun b hb => by have := H9.out b (HG1.out b hb); omega)
          have HG23 := Lib.hid (show ∀ b ∈ G2, b < W3.heap.size from fun b hb => H9.out b (HG2.out b hb))
          have h81 : b8 ∉ G1 := fun h => by have := H8F.out b8 (HG1.out b8 h); omega
          have h10G : w5.heap.size ∉ G1 := fun h => by have := HG13.out _ h; omega
          have h10F : w5.heap.size ∉ F9 ++ F5 := fun h => by
            rcases List.mem_append.1 h with h | h
            · have := H9.out _ h; omega
            · have := HL5w.out _ h; omega
          have n10 : w5.heap.size ≠ b8 := by omega
          have n10' : b8 ≠ w5.heap.size := by omega
          go_upto_region 10 with fail
          refine wp_region_last (S := (fun w' => w'.cell? ⟨b8, 0, none⟩ = some (.slice (some ⟨g, 0, none⟩) d.length c9) ∧ w'.cell? ⟨w5.heap.size, 0, none⟩ = some (.string name) ∧ w'.cell? ⟨w5.heap.size, 1, none⟩ = some (.int .i64 r.1) ∧ w'.cell? ⟨w5.heap.size, 2, none⟩ = some (.slice A5 r.2.length c5))) 15 (by kernel_rfl) (by kernel_rfl) ?_ (fun hHeld => ?_)
          · ((try dsimp only); go_keep)
          refine wpAnyH_take (i := 1) (v := ?_) (by simp only [List.getElem?_toArray, List.getElem?_cons_succ, List.getElem?_cons_zero]; rfl) (by kernel_rfl) (by kernel_rfl) (by kernel_rfl) (by exact fun _ _ _ h => h) (Or.inl ⟨by rfl, ?_⟩) (by assumption) ?_
          rotate_left
          · (intro wS hSw; (try dsimp only at hSw); go_simp; try (with_reducible rfl))
          try simp only [Act.put, List.setIfInBounds_toArray, List.set_cons_zero, List.set_cons_succ]
          refine wpAnyH_take (i := 2) (v := ?_) (by simp only [List.getElem?_toArray, List.getElem?_cons_succ, List.getElem?_cons_zero]; rfl) (by kernel_rfl) (by kernel_rfl) (by kernel_rfl) (by exact fun _ _ _ h => h) (Or.inl ⟨by rfl, ?_⟩) (by assumption) ?_
          rotate_left
          · (intro wS hSw; (try dsimp only at hSw); go_simp; try (with_reducible rfl))
          try simp only [Act.put, List.setIfInBounds_toArray, List.set_cons_zero, List.set_cons_succ]
          refine wpAnyH_take (i := 3) (v := ?_) (by simp only [List.getElem?_toArray, List.getElem?_cons_succ, List.getElem?_cons_zero]; rfl) (by kernel_rfl) (by kernel_rfl) (by kernel_rfl) (by exact fun _ _ _ h => h) (Or.inl ⟨by rfl, ?_⟩) (by assumption) ?_
          rotate_left
          · (intro wS hSw; (try dsimp only at hSw); go_simp; try (with_reducible rfl))
          try simp only [Act.put, List.setIfInBounds_toArray, List.set_cons_zero, List.set_cons_succ]
          refine wpAnyH_take (i := 4) (v := ?_) (by simp only [List.getElem?_toArray, List.getElem?_cons_succ, List.getElem?_cons_zero]; rfl) (by kernel_rfl) (by kernel_rfl) (by kernel_rfl) (by exact fun _ _ _ h => h) (Or.inl ⟨by rfl, ?_⟩) (by assumption) ?_
          rotate_left
          · (intro wS hSw; (try dsimp only at hSw); go_simp; try (with_reducible rfl))
          try simp only [Act.put, List.setIfInBounds_toArray, List.set_cons_zero, List.set_cons_succ]
          refine wpAnyH_take (i := 6) (v := ?_) (by simp only [List.getElem?_toArray, List.getElem?_cons_succ, List.getElem?_cons_zero]; rfl) (by kernel_rfl) (by kernel_rfl) (by kernel_rfl) (by exact fun _ _ _ h => h) (Or.inl ⟨by rfl, ?_⟩) (by assumption) ?_
          rotate_left
          · (intro wS hSw; (try dsimp only at hSw); go_simp; try (with_reducible rfl))
          try simp only [Act.put, List.setIfInBounds_toArray, List.set_cons_zero, List.set_cons_succ]
          refine wpAnyH_take (i := 9) (v := ?_) (by simp only [List.getElem?_toArray, List.getElem?_cons_succ, List.getElem?_cons_zero]; rfl) (by kernel_rfl) (by kernel_rfl) (by kernel_rfl) (by exact fun _ _ _ h => h) (Or.inl ⟨by rfl, ?_⟩) (by assumption) ?_
          rotate_left
          · (intro wS hSw; (try dsimp only at hSw); go_simp; try (with_reducible rfl))
          try simp only [Act.put, List.setIfInBounds_toArray, List.set_cons_zero, List.set_cons_succ]
          refine wpAnyH_take (i := 10) (v := ?_) (by simp only [List.getElem?_toArray, List.getElem?_cons_succ, List.getElem?_cons_zero]; rfl) (by kernel_rfl) (by kernel_rfl) (by kernel_rfl) (by exact fun _ _ _ h => h) (Or.inl ⟨by rfl, ?_⟩) (by assumption) ?_
          rotate_left
          · (intro wS hSw; (try dsimp only at hSw); go_simp; try (with_reducible rfl))
          try simp only [Act.put, List.setIfInBounds_toArray, List.set_cons_zero, List.set_cons_succ]
          refine wpAnyH_take (i := 11) (v := ?_) (by simp only [List.getElem?_toArray, List.getElem?_cons_succ, List.getElem?_cons_zero]; rfl) (by kernel_rfl) (by kernel_rfl) (by kernel_rfl) (by exact fun _ _ _ h => h) (Or.inl ⟨by rfl, ?_⟩) (by assumption) ?_
          rotate_left
          · (intro wS hSw; (try dsimp only at hSw); go_simp; try (with_reducible rfl))
          try simp only [Act.put, List.setIfInBounds_toArray, List.set_cons_zero, List.set_cons_succ]
          refine wpAnyH_take (i := 12) (v := ?_) (by simp only [List.getElem?_toArray, List.getElem?_cons_succ, List.getElem?_cons_zero]; rfl) (by kernel_rfl) (by kernel_rfl) (by kernel_rfl) (by exact fun _ _ _ h => h) (Or.inl ⟨by rfl, ?_⟩) (by assumption) ?_
          rotate_left
          · (intro wS hSw; (try dsimp only at hSw); go_simp; try (with_reducible rfl))
          try simp only [Act.put, List.setIfInBounds_toArray, List.set_cons_zero, List.set_cons_succ]
          refine wpAnyH_ready (rs := [0, 7]) (by kernel_rfl) (by simp) ?_
          refine AllReadyH.cons (by simp only [List.getElem?_toArray, List.getElem?_cons_zero]; rfl) (fun K hK => ?_) (AllReadyH.cons (by simp only [List.getElem?_toArray, List.getElem?_cons_succ, List.getElem?_cons_zero]; rfl) (fun K hK => ?_) AllReadyH.nil)
          ·
            go_simp
            refine hK.out _ _ ?_ (fun hHeld2 => ?_)
            · ((try dsimp only); go_keep)
            clear hHeld hK K
            have hHeld := hHeld2
            clear hHeld2
            try simp only [Act.put, List.setIfInBounds_toArray, List.set_cons_zero, List.set_cons_succ]
            refine wpAnyH_ready (rs := [5, 7]) (by kernel_rfl) (by simp) ?_
            refine AllReadyH.cons (by simp only [List.getElem?_toArray, List.getElem?_cons_succ, List.getElem?_cons_zero]; rfl) (fun K hK => ?_) (AllReadyH.cons (by simp only [List.getElem?_toArray, List.getElem?_cons_succ, List.getElem?_cons_zero]; rfl) (fun K hK => ?_) AllReadyH.nil)
            ·
              (refine step_appP (E := sTb) (ds := []) (es := d.take k) (G := G1) (by rfl) (.tmp 59) (.tmp 63) _ (by rfl) tTb (by rfl) (SV.empty' (w := W6.drew) rfl rfl) (by simp) (by rfl) HTK.out (HL1.out.toExt (fun ad e => (HA.out ad e).1) (by refine x'z ?_; repeat (with_reducible (first | exact x'a _ _ | exact x'b _ | exact x'c (by assumption) | refine x'd ?_ (by assumption) | refine x'e ?_ _ | refine x'f ?_ _ | refine x'g ?_ | refine x'h ?_ ?_ _ | refine x'i ?_ _ | refine x'j ?_ | refine x'k ?_ _ | refine x'l ?_ _ _ | refine x'm ?_ | assumption | (refine x'n ?_; omega) | omega)))) (by rw [List.singleton_append, List.nodup_cons]; exact ⟨fun h => by have h1 := HG19.out _ h; ((try simp at h1) <;> omega), HM1.out⟩) (by simp; omega) (by omega) ?_; intro v1 w1 F1 hS1 hC1 hN1 hF1; obtain ⟨x1, n1⟩ := app3_1 (W6 := W6) (by refine x'z ?_; repeat (with_reducible (first | exact x'a _ _ | exact x'b _ | exact x'c (by assumption) | refine x'd ?_ (by assumption) | refine x'e ?_ _ | refine x'f ?_ _ | refine x'g ?_ | refine x'h ?_ ?_ _ | refine x'i ?_ _ | refine x'j ?_ | refine x'k ?_ _ | refine x'l ?_ _ _ | refine x'm ?_ | assumption | (refine x'n ?_; omega) | omega))) (by simp) hC1 hF1; obtain ⟨lb1, kb1, fb1⟩ := bx1 (HB6.out.toExt x1); obtain ⟨lt1, t10, t11, t12, ft1⟩ := box3 (HT6.out.toExt x1); have HS1 := Lib.hid hS1; have HN1 := Lib.hid hN1; have HX1 := Lib.hid x1; have H1 := Lib.hid n1; have HC1 := Lib.hid hC1; clear hS1 hN1 n1 hF1 hC1)
              refine hK.out _ _ ?_ (fun hHeld2 => ?_)
              · ((try dsimp only); go_keep)
              clear hHeld hK K
              have hHeld := hHeld2
              clear hHeld2
              try simp only [Act.put, List.setIfInBounds_toArray, List.set_cons_zero, List.set_cons_succ]
              refine wpAnyH_ready (rs := [7]) (by kernel_rfl) (by simp) ?_
              refine AllReadyH.cons (by simp only [List.getElem?_toArray, List.getElem?_cons_succ, List.getElem?_cons_zero]; rfl) (fun K hK => ?_) AllReadyH.nil
              go_simp
              refine hK.out _ _ ?_ (fun hHeld2 => ?_)
              · ((try dsimp only); go_keep)
              clear hHeld hK K
              have hHeld := hHeld2
              clear hHeld2
              try simp only [Act.put, List.setIfInBounds_toArray, List.set_cons_zero, List.set_cons_succ]
              refine wpAnyH_ready (rs := [8]) (by kernel_rfl) (by simp) ?_
              refine AllReadyH.cons (by simp only [List.getElem?_toArray, List.getElem?_cons_succ, List.getElem?_cons_zero]; rfl) (fun K hK => ?_) AllReadyH.nil
              (refine step_appB (E := sTb) (d := (name, r)) (G := F5) (cs := #[.string name, .int .i64 r.1, .slice A5 r.2.length c5]) (by rfl) (.tmp 64) (.tmp 66) _ (by rfl) tTb (by rfl) (by rfl) (BoxAt.new _ _ _) (sTb_mk (OD.toExt (OD.toExt HS5.out HX1.out) (by refine x'z ?_; repeat (with_reducible (first | exact x'a _ _ | exact x'b _ | exact x'c (by assumption) | refine x'd ?_ (by assumption) | refine x'e ?_ _ | refine x'f ?_ _ | refine x'g ?_ | refine x'h ?_ ?_ _ | refine x'i ?_ _ | refine x'j ?_ | refine x'k ?_ _ | refine x'l ?_ _ _ | refine x'm ?_ | assumption | (refine x'n ?_; omega) | omega))))) (by rfl) (by simp [Value.oneCell']) (HS1.out.toExt (by refine x'z ?_; repeat (with_reducible (first | exact x'a _ _ | exact x'b _ | exact x'c (by assumption) | refine x'd ?_ (by assumption) | refine x'e ?_ _ | refine x'f ?_ _ | refine x'g ?_ | refine x'h ?_ ?_ _ | refine x'i ?_ _ | refine x'j ?_ | refine x'k ?_ _ | refine x'l ?_ _ _ | refine x'm ?_ | assumption | (refine x'n ?_; omega) | omega)))) (app3_n5 HN1.out HN5.out H1.out HG13.out HF5.out HL5.out) (by simp; omega) (by omega) ?_; intro v2 w2 F2 hS2 hC2 hN2 hF2; obtain ⟨m2, n2, c2⟩ := app3_2 HX1.out (by refine x'z ?_; repeat (with_reducible (first | exact x'a _ _ | exact x'b _ | exact x'c (by assumption) | refine x'd ?_ (by assumption) | refine x'e ?_ _ | refine x'f ?_ _ | refine x'g ?_ | refine x'h ?_ ?_ _ | refine x'i ?_ _ | refine x'j ?_ | refine x'k ?_ _ | refine x'l ?_ _ _ | refine x'm ?_ | assumption | (refine x'n ?_; omega) | omega))) hz36 hC2 H1.out hF2 HF5.out; obtain ⟨lb2, kb2, fb2⟩ := bx1 (HB6.out.chg c2 h81); obtain ⟨lt2, t20, t21, t22, ft2⟩ := box3 (HT6.out.chg c2 h10G); have HS2 := Lib.hid hS2; have HN2 := Lib.hid hN2; have HM22 := Lib.hid m2; have H2 := Lib.hid n2; have HC2 := Lib.hid c2; clear hS2 hN2 hC2 hF2 m2 n2 c2)
              refine hK.out _ _ ?_ (fun hHeld2 => ?_)
              · ((try dsimp only); go_keep)
              clear hHeld hK K
              have hHeld := hHeld2
              clear hHeld2
              try simp only [Act.put, List.setIfInBounds_toArray, List.set_cons_zero, List.set_cons_succ]
              refine wpAnyH_ready (rs := [13]) (by kernel_rfl) (by simp) ?_
              refine AllReadyH.cons (by simp only [List.getElem?_toArray, List.getElem?_cons_succ, List.getElem?_cons_zero]; rfl) (fun K hK => ?_) AllReadyH.nil
              (refine step_appP (E := sTb) (es := d.drop k) (G := G2) (by rfl) (.tmp 67) (.tmp 71) _ (by rfl) tTb (by rfl) (HS2.out.toExt (by refine x'z ?_; repeat (with_reducible (first | exact x'a _ _ | exact x'b _ | exact x'c (by assumption) | refine x'd ?_ (by assumption) | refine x'e ?_ _ | refine x'f ?_ _ | refine x'g ?_ | refine x'h ?_ ?_ _ | refine x'i ?_ _ | refine x'j ?_ | refine x'k ?_ _ | refine x'l ?_ _ _ | refine x'm ?_ | assumption | (refine x'n ?_; omega) | omega)))) HN2.out (by rfl) HDK.out ((HL2.out.chg HA2.out HC2.out HM3.out).toExt (fun ad e => Nat.lt_of_lt_of_le (HA2.out ad e).1 HC2.out.size) (by refine x'z ?_; repeat (with_reducible (first | exact x'a _ _ | exact x'b _ | exact x'c (by assumption) | refine x'd ?_ (by assumption) | refine x'e ?_ _ | refine x'f ?_ _ | refine x'g ?_ | refine x'h ?_ ?_ _ | refine x'i ?_ _ | refine x'j ?_ | refine x'k ?_ _ | refine x'l ?_ _ _ | refine x'm ?_ | assumption | (refine x'n ?_; omega) | omega)))) (app3_n2 HN2.out HM2.out H2.out HM3.out HG23.out) (by simp; omega) (by omega) ?_; intro v3 w3 F3 hS3 hC3 hN3 hF3; obtain ⟨n3, c3⟩ := app3_3 HC2.out (by refine x'z ?_; repeat (with_reducible (first | exact x'a _ _ | exact x'b _ | exact x'c (by assumption) | refine x'd ?_ (by assumption) | refine x'e ?_ _ | refine x'f ?_ _ | refine x'g ?_ | refine x'h ?_ ?_ _ | refine x'i ?_ _ | refine x'j ?_ | refine x'k ?_ _ | refine x'l ?_ _ _ | refine x'm ?_ | assumption | (refine x'n ?_; omega) | omega))) hz36 HG1.out HG2.out hC3 HM22.out HF5.out hF3; have B3 := HB6.out.chg c3 H89.out; obtain ⟨lb3, kb3, fb3⟩ := bx1 B3; obtain ⟨lt3, t30, t31, t32, ft3⟩ := box3 (HT6.out.chg c3 h10F); obtain ⟨A8, c8, rfl, _, _⟩ := hS3.form; obtain ⟨n8, hn8⟩ : ∃ n, ([] ++ d.take k ++ [(name, r)] ++ d.drop k).length = n := ⟨_, rfl⟩; rw [hn8] at hS3 ⊢; have HL8 := Lib.hid hn8; clear hn8; have HS30 := Lib.hid hS3; have HN8 := Lib.hid hN3; have HC3 := Lib.hid c3; have H3 := Lib.hid n3; have HB30 := Lib.hid B3; clear hS3 hN3 hC3 hF3 n3 c3 B3)
              refine hK.out _ _ ?_ (fun hHeld2 => ?_)
              · ((try dsimp only); go_keep)
              clear hHeld hK K
              have hHeld := hHeld2
              clear hHeld2
              try simp only [Act.put, List.setIfInBounds_toArray, List.set_cons_zero, List.set_cons_succ]
              refine wpAnyH_take (i := 14) (v := ?_) (by simp only [List.getElem?_toArray, List.getElem?_cons_succ, List.getElem?_cons_zero]; rfl) (by kernel_rfl) (by kernel_rfl) (by kernel_rfl) (by exact fun _ _ _ h => h) (Or.inl ⟨by rfl, ?_⟩) (by assumption) ?_
              rotate_left
              · (intro wS hSw; (try dsimp only at hSw); go_simp; try (with_reducible rfl))
              try simp only [Act.put, List.setIfInBounds_toArray, List.set_cons_zero, List.set_cons_succ]
              refine wpAnyH_done (by kernel_rfl) ?_ _
              refine LastQ.go (by simp only [List.getElem?_toArray, List.getElem?_cons_succ, List.getElem?_cons_zero]; rfl) (fun K hK => ?_)
              go_simp
              refine hK.out _ _ ?_
              clear hHeld hK K
              try simp only [Act.put, List.setIfInBounds_toArray, List.set_cons_zero, List.set_cons_succ]
              have e3 : [] ++ d.take k ++ [(name, r)] ++ d.drop k = insT name r d := by rw [HINS.out, List.nil_append]
              have hcw : Chg [b8] w3 (w3.setCell ⟨b8, 0, none⟩ (.slice A8 n8 c8)) := (Chg.refl [b8] w3).setCell (.inl (by simp)) _
              have HBN : Hid (BoxAt (w3.setCell ⟨b8, 0, none⟩ (.slice A8 n8 c8)) b8 #[.slice A8 n8 c8]) := Lib.hid HB30.out.set10
              have HS8 := Lib.hid (HS30.out.chg hcw (fun b hb h => by
                rw [List.mem_singleton.1 h] at hb
                rcases H3.out _ hb with h | h
                · have := H8F.out _ h; omega
                · omega))
              have HW8 := Lib.hid (show ∃ y, w3.setCell ⟨b8, 0, none⟩ (.slice A8 n8 c8) = ext W y from ((HC3.out.mono (G := b8 :: (F9 ++ F5)) (fun x hx => .inl (List.mem_cons_of_mem _ hx))).trans hcw (fun x hx => .inl (by rw [List.mem_singleton.1 hx]; simp))).isExt HX6.out (fun x hx => by
                rcases List.mem_cons.1 hx with h | h
                · omega
                · rcases List.mem_append.1 h with h | h
                  · exact HF9W.out x h
                  · have := HF5.out x h; omega))
              have HF8 := Lib.hid (show ∀ b ∈ F3, W.heap.size ≤ b from fun b hb => by
                rcases H3.out b hb with h | h
                · exact HF9W.out b h
                · omega)
              have HF := Lib.hid (show CutSR d name r b8 W (w3.setCell ⟨b8, 0, none⟩ (.slice A8 n8 c8)) from by
                refine ⟨A8, c8, F3, ?_, ?_, HN8.out, HF8.out, HW8.out⟩
                · rw [← e3, HL8.out]; exact HBN.out
                · rw [← e3, HL8.out]; exact HS8.out)
              clear hcw HBN HS8 HW8 HF8 e3 HC3 H3 HB30 HS30 HN8
              go_wp2_with fail
              go_meet
              exact HF.out
            ·
              go_simp
              refine hK.out _ _ ?_ (fun hHeld2 => ?_)
              · ((try dsimp only); go_keep)
              clear hHeld hK K
              have hHeld := hHeld2
              clear hHeld2
              try simp only [Act.put, List.setIfInBounds_toArray, List.set_cons_zero, List.set_cons_succ]
              refine wpAnyH_ready (rs := [5]) (by kernel_rfl) (by simp) ?_
              refine AllReadyH.cons (by simp only [List.getElem?_toArray, List.getElem?_cons_succ, List.getElem?_cons_zero]; rfl) (fun K hK => ?_) AllReadyH.nil
              (refine step_appP (E := sTb) (ds := []) (es := d.take k) (G := G1) (by rfl) (.tmp 59) (.tmp 63) _ (by rfl) tTb (by rfl) ((SV.empty' (w := W6) rfl rfl).toExt (by refine x'z ?_; repeat (with_reducible (first | exact x'a _ _ | exact x'b _ | exact x'c (by assumption) | refine x'd ?_ (by assumption) | refine x'e ?_ _ | refine x'f ?_ _ | refine x'g ?_ | refine x'h ?_ ?_ _ | refine x'i ?_ _ | refine x'j ?_ | refine x'k ?_ _ | refine x'l ?_ _ _ | refine x'm ?_ | assumption | (refine x'n ?_; omega) | omega)))) (by simp) (by rfl) HTK.out (HL1.out.toExt (fun ad e => (HA.out ad e).1) (by refine x'z ?_; repeat (with_reducible (first | exact x'a _ _ | exact x'b _ | exact x'c (by assumption) | refine x'd ?_ (by assumption) | refine x'e ?_ _ | refine x'f ?_ _ | refine x'g ?_ | refine x'h ?_ ?_ _ | refine x'i ?_ _ | refine x'j ?_ | refine x'k ?_ _ | refine x'l ?_ _ _ | refine x'm ?_ | assumption | (refine x'n ?_; omega) | omega)))) (by rw [List.singleton_append, List.nodup_cons]; exact ⟨fun h => by have h1 := HG19.out _ h; ((try simp at h1) <;> omega), HM1.out⟩) (by simp; omega) (by omega) ?_; intro v1 w1 F1 hS1 hC1 hN1 hF1; obtain ⟨x1, n1⟩ := app3_1 (W6 := W6) (by refine x'z ?_; repeat (with_reducible (first | exact x'a _ _ | exact x'b _ | exact x'c (by assumption) | refine x'd ?_ (by assumption) | refine x'e ?_ _ | refine x'f ?_ _ | refine x'g ?_ | refine x'h ?_ ?_ _ | refine x'i ?_ _ | refine x'j ?_ | refine x'k ?_ _ | refine x'l ?_ _ _ | refine x'm ?_ | assumption | (refine x'n ?_; omega) | omega))) (by simp) hC1 hF1; obtain ⟨lb1, kb1, fb1⟩ := bx1 (HB6.out.toExt x1); obtain ⟨lt1, t10, t11, t12, ft1⟩ := box3 (HT6.out.toExt x1); have HS1 := Lib.hid hS1; have HN1 := Lib.hid hN1; have HX1 := Lib.hid x1; have H1 := Lib.hid n1; have HC1 := Lib.hid hC1; clear hS1 hN1 n1 hF1 hC1)
              refine hK.out _ _ ?_ (fun hHeld2 => ?_)
              · ((try dsimp only); go_keep)
              clear hHeld hK K
              have hHeld := hHeld2
              clear hHeld2
              try simp only [Act.put, List.setIfInBounds_toArray, List.set_cons_zero, List.set_cons_succ]
              refine wpAnyH_ready (rs := [8]) (by kernel_rfl) (by simp) ?_
              refine AllReadyH.cons (by simp only [List.getElem?_toArray, List.getElem?_cons_succ, List.getElem?_cons_zero]; rfl) (fun K hK => ?_) AllReadyH.nil
              (refine step_appB (E := sTb) (d := (name, r)) (G := F5) (cs := #[.string name, .int .i64 r.1, .slice A5 r.2.length c5]) (by rfl) (.tmp 64) (.tmp 66) _ (by rfl) tTb (by rfl) (by rfl) (BoxAt.chg (BoxAt.drew (by have h := BoxAt.new (W6.alloc (.cells #[] 46)) #[.string name, .int .i64 r.1, .slice A5 r.2.length c5] 46; rw [World.size_alloc] at h; exact h)) HC1.out (by simp)) (sTb_mk (OD.toExt (OD.toExt HS5.out HX1.out) (by refine x'z ?_; repeat (with_reducible (first | exact x'a _ _ | exact x'b _ | exact x'c (by assumption) | refine x'd ?_ (by assumption) | refine x'e ?_ _ | refine x'f ?_ _ | refine x'g ?_ | refine x'h ?_ ?_ _ | refine x'i ?_ _ | refine x'j ?_ | refine x'k ?_ _ | refine x'l ?_ _ _ | refine x'm ?_ | assumption | (refine x'n ?_; omega) | omega))))) (by rfl) (by simp [Value.oneCell']) (HS1.out.toExt (by refine x'z ?_; repeat (with_reducible (first | exact x'a _ _ | exact x'b _ | exact x'c (by assumption) | refine x'd ?_ (by assumption) | refine x'e ?_ _ | refine x'f ?_ _ | refine x'g ?_ | refine x'h ?_ ?_ _ | refine x'i ?_ _ | refine x'j ?_ | refine x'k ?_ _ | refine x'l ?_ _ _ | refine x'm ?_ | assumption | (refine x'n ?_; omega) | omega)))) (app3_n5 HN1.out HN5.out H1.out HG13.out HF5.out HL5.out) (by simp; omega) (by omega) ?_; intro v2 w2 F2 hS2 hC2 hN2 hF2; obtain ⟨m2, n2, c2⟩ := app3_2 HX1.out (by refine x'z ?_; repeat (with_reducible (first | exact x'a _ _ | exact x'b _ | exact x'c (by assumption) | refine x'd ?_ (by assumption) | refine x'e ?_ _ | refine x'f ?_ _ | refine x'g ?_ | refine x'h ?_ ?_ _ | refine x'i ?_ _ | refine x'j ?_ | refine x'k ?_ _ | refine x'l ?_ _ _ | refine x'm ?_ | assumption | (refine x'n ?_; omega) | omega))) hz36 hC2 H1.out hF2 HF5.out; obtain ⟨lb2, kb2, fb2⟩ := bx1 (HB6.out.chg c2 h81); obtain ⟨lt2, t20, t21, t22, ft2⟩ := box3 (HT6.out.chg c2 h10G); have HS2 := Lib.hid hS2; have HN2 := Lib.hid hN2; have HM22 := Lib.hid m2; have H2 := Lib.hid n2; have HC2 := Lib.hid c2; clear hS2 hN2 hC2 hF2 m2 n2 c2)
              refine hK.out _ _ ?_ (fun hHeld2 => ?_)
              · ((try dsimp only); go_keep)
              clear hHeld hK K
              have hHeld := hHeld2
              clear hHeld2
              try simp only [Act.put, List.setIfInBounds_toArray, List.set_cons_zero, List.set_cons_succ]
              refine wpAnyH_ready (rs := [13]) (by kernel_rfl) (by simp) ?_
              refine AllReadyH.cons (by simp only [List.getElem?_toArray, List.getElem?_cons_succ, List.getElem?_cons_zero]; rfl) (fun K hK => ?_) AllReadyH.nil
              (refine step_appP (E := sTb) (es := d.drop k) (G := G2) (by rfl) (.tmp 67) (.tmp 71) _ (by rfl) tTb (by rfl) (HS2.out.toExt (by refine x'z ?_; repeat (with_reducible (first | exact x'a _ _ | exact x'b _ | exact x'c (by assumption) | refine x'd ?_ (by assumption) | refine x'e ?_ _ | refine x'f ?_ _ | refine x'g ?_ | refine x'h ?_ ?_ _ | refine x'i ?_ _ | refine x'j ?_ | refine x'k ?_ _ | refine x'l ?_ _ _ | refine x'm ?_ | assumption | (refine x'n ?_; omega) | omega)))) HN2.out (by rfl) HDK.out ((HL2.out.chg HA2.out HC2.out HM3.out).toExt (fun ad e => Nat.lt_of_lt_of_le (HA2.out ad e).1 HC2.out.size) (by refine x'z ?_; repeat (with_reducible (first | exact x'a _ _ | exact x'b _ | exact x'c (by assumption) | refine x'd ?_ (by assumption) | refine x'e ?_ _ | refine x'f ?_ _ | refine x'g ?_ | refine x'h ?_ ?_ _ | refine x'i ?_ _ | refine x'j ?_ | refine x'k ?_ _ | refine x'l ?_ _ _ | refine x'm ?_ | assumption | (refine x'n ?_; omega) | omega)))) (app3_n2 HN2.out HM2.out H2.out HM3.out HG23.out) (by simp; omega) (by omega) ?_; intro v3 w3 F3 hS3 hC3 hN3 hF3; obtain ⟨n3, c3⟩ := app3_3 HC2.out (by refine x'z ?_; repeat (with_reducible (first | exact x'a _ _ | exact x'b _ | exact x'c (by assumption) | refine x'd ?_ (by assumption) | refine x'e ?_ _ | refine x'f ?_ _ | refine x'g ?_ | refine x'h ?_ ?_ _ | refine x'i ?_ _ | refine x'j ?_ | refine x'k ?_ _ | refine x'l ?_ _ _ | refine x'm ?_ | assumption | (refine x'n ?_; omega) | omega))) hz36 HG1.out HG2.out hC3 HM22.out HF5.out hF3; have B3 := HB6.out.chg c3 H89.out; obtain ⟨lb3, kb3, fb3⟩ := bx1 B3; obtain ⟨lt3, t30, t31, t32, ft3⟩ := box3 (HT6.out.chg c3 h10F); obtain ⟨A8, c8, rfl, _, _⟩ := hS3.form; obtain ⟨n8, hn8⟩ : ∃ n, ([] ++ d.take k ++ [(name, r)] ++ d.drop k).length = n := ⟨_, rfl⟩; rw [hn8] at hS3 ⊢; have HL8 := Lib.hid hn8; clear hn8; have HS30 := Lib.hid hS3; have HN8 := Lib.hid hN3; have HC3 := Lib.hid c3; have H3 := Lib.hid n3; have HB30 := Lib.hid B3; clear hS3 hN3 hC3 hF3 n3 c3 B3)
              refine hK.out _ _ ?_ (fun hHeld2 => ?_)
              · ((try dsimp only); go_keep)
              clear hHeld hK K
              have hHeld := hHeld2
              clear hHeld2
              try simp only [Act.put, List.setIfInBounds_toArray, List.set_cons_zero, List.set_cons_succ]
              refine wpAnyH_take (i := 14) (v := ?_) (by simp only [List.getElem?_toArray, List.getElem?_cons_succ, List.getElem?_cons_zero]; rfl) (by kernel_rfl) (by kernel_rfl) (by kernel_rfl) (by exact fun _ _ _ h => h) (Or.inl ⟨by rfl, ?_⟩) (by assumption) ?_
              rotate_left
              · (intro wS hSw; (try dsimp only at hSw); go_simp; try (with_reducible rfl))
              try simp only [Act.put, List.setIfInBounds_toArray, List.set_cons_zero, List.set_cons_succ]
              refine wpAnyH_done (by kernel_rfl) ?_ _
              refine LastQ.go (by simp only [List.getElem?_toArray, List.getElem?_cons_succ, List.getElem?_cons_zero]; rfl) (fun K hK => ?_)
              go_simp
              refine hK.out _ _ ?_
              clear hHeld hK K
              try simp only [Act.put, List.setIfInBounds_toArray, List.set_cons_zero, List.set_cons_succ]
              have e3 : [] ++ d.take k ++ [(name, r)] ++ d.drop k = insT name r d := by rw [HINS.out, List.nil_append]
              have hcw : Chg [b8] w3 (w3.setCell ⟨b8, 0, none⟩ (.slice A8 n8 c8)) := (Chg.refl [b8] w3).setCell (.inl (by simp)) _
              have HBN : Hid (BoxAt (w3.setCell ⟨b8, 0, none⟩ (.slice A8 n8 c8)) b8 #[.slice A8 n8 c8]) := Lib.hid HB30.out.set10
              have HS8 := Lib.hid (HS30.out.chg hcw (fun b hb h => by
                rw [List.mem_singleton.1 h] at hb
                rcases H3.out _ hb with h | h
                · have := H8F.out _ h; omega
                · omega))
              have HW8 := Lib.hid (show ∃ y, w3.setCell ⟨b8, 0, none⟩ (.slice A8 n8 c8) = ext W y from ((HC3.out.mono (G := b8 :: (F9 ++ F5)) (fun x hx => .inl (List.mem_cons_of_mem _ hx))).trans hcw (fun x hx => .inl (by rw [List.mem_singleton.1 hx]; simp))).isExt HX6.out (fun x hx => by
                rcases List.mem_cons.1 hx with h | h
                · omega
                · rcases List.mem_append.1 h with h | h
                  · exact HF9W.out x h
                  · have := HF5.out x h; omega))
              have HF8 := Lib.hid (show ∀ b ∈ F3, W.heap.size ≤ b from fun b hb => by
                rcases H3.out b hb with h | h
                · exact HF9W.out b h
                · omega)
              have HF := Lib.hid (show CutSR d name r b8 W (w3.setCell ⟨b8, 0, none⟩ (.slice A8 n8 c8)) from by
                refine ⟨A8, c8, F3, ?_, ?_, HN8.out, HF8.out, HW8.out⟩
                · rw [← e3, HL8.out]; exact HBN.out
                · rw [← e3, HL8.out]; exact HS8.out)
              clear hcw HBN HS8 HW8 HF8 e3 HC3 H3 HB30 HS30 HN8
              go_wp2_with fail
              go_meet
              exact HF.out
          ·
            go_simp
            refine hK.out _ _ ?_ (fun hHeld2 => ?_)
            · ((try dsimp only); go_keep)
            clear hHeld hK K
            have hHeld := hHeld2
            clear hHeld2
            try simp only [Act.put, List.setIfInBounds_toArray, List.set_cons_zero, List.set_cons_succ]
            refine wpAnyH_ready (rs := [0]) (by kernel_rfl) (by simp) ?_
            refine AllReadyH.cons (by simp only [List.getElem?_toArray, List.getElem?_cons_zero]; rfl) (fun K hK => ?_) AllReadyH.nil
            go_simp
            refine hK.out _ _ ?_ (fun hHeld2 => ?_)
            · ((try dsimp only); go_keep)
            clear hHeld hK K
            have hHeld := hHeld2
            clear hHeld2
            try simp only [Act.put, List.setIfInBounds_toArray, List.set_cons_zero, List.set_cons_succ]
            refine wpAnyH_ready (rs := [5]) (by kernel_rfl) (by simp) ?_
            refine AllReadyH.cons (by simp only [List.getElem?_toArray, List.getElem?_cons_succ, List.getElem?_cons_zero]; rfl) (fun K hK => ?_) AllReadyH.nil
            (refine step_appP (E := sTb) (ds := []) (es := d.take k) (G := G1) (by rfl) (.tmp 59) (.tmp 63) _ (by rfl) tTb (by rfl) (SV.empty' (w := W6.drew.alloc (.cells #[.string name, .int .i64 r.1, .slice A5 r.2.length c5] 46)) rfl (by simp)) (by simp) (by rfl) HTK.out (HL1.out.toExt (fun ad e => (HA.out ad e).1) (by refine x'z ?_; repeat (with_reducible (first | exact x'a _ _ | exact x'b _ | exact x'c (by assumption) | refine x'd ?_ (by assumption) | refine x'e ?_ _ | refine x'f ?_ _ | refine x'g ?_ | refine x'h ?_ ?_ _ | refine x'i ?_ _ | refine x'j ?_ | refine x'k ?_ _ | refine x'l ?_ _ _ | refine x'm ?_ | assumption | (refine x'n ?_; omega) | omega)))) (by rw [List.singleton_append, List.nodup_cons]; exact ⟨fun h => by have h1 := HG19.out _ h; ((try simp at h1) <;> omega), HM1.out⟩) (by simp; omega) (by omega) ?_; intro v1 w1 F1 hS1 hC1 hN1 hF1; obtain ⟨x1, n1⟩ := app3_1 (W6 := W6) (by refine x'z ?_; repeat (with_reducible (first | exact x'a _ _ | exact x'b _ | exact x'c (by assumption) | refine x'd ?_ (by assumption) | refine x'e ?_ _ | refine x'f ?_ _ | refine x'g ?_ | refine x'h ?_ ?_ _ | refine x'i ?_ _ | refine x'j ?_ | refine x'k ?_ _ | refine x'l ?_ _ _ | refine x'm ?_ | assumption | (refine x'n ?_; omega) | omega))) (by simp) hC1 hF1; obtain ⟨lb1, kb1, fb1⟩ := bx1 (HB6.out.toExt x1); obtain ⟨lt1, t10, t11, t12, ft1⟩ := box3 (HT6.out.toExt x1); have HS1 := Lib.hid hS1; have HN1 := Lib.hid hN1; have HX1 := Lib.hid x1; have H1 := Lib.hid n1; have HC1 := Lib.hid hC1; clear hS1 hN1 n1 hF1 hC1)
            refine hK.out _ _ ?_ (fun hHeld2 => ?_)
            · ((try dsimp only); go_keep)
            clear hHeld hK K
            have hHeld := hHeld2
            clear hHeld2
            try simp only [Act.put, List.setIfInBounds_toArray, List.set_cons_zero, List.set_cons_succ]
            refine wpAnyH_ready (rs := [8]) (by kernel_rfl) (by simp) ?_
            refine AllReadyH.cons (by simp only [List.getElem?_toArray, List.getElem?_cons_succ, List.getElem?_cons_zero]; rfl) (fun K hK => ?_) AllReadyH.nil
            (refine step_appB (E := sTb) (d := (name, r)) (G := F5) (cs := #[.string name, .int .i64 r.1, .slice A5 r.2.length c5]) (by rfl) (.tmp 64) (.tmp 66) _ (by rfl) tTb (by rfl) (by rfl) (BoxAt.chg (by repeat (with_reducible (first | assumption | exact BoxAt.new _ _ _ | apply BoxAt.set3 | refine BoxAt.set3' ?_ (by omega) | apply BoxAt.set30 | apply BoxAt.set31 | apply BoxAt.set32 | apply BoxAt.set2 | refine BoxAt.set2' ?_ (by omega) | apply BoxAt.setP0 | apply BoxAt.setP1 | refine BoxAt.setO ?_ (by omega) | refine BoxAt.alloc ?_ _ | refine BoxAt.drew ?_ | refine BoxAt.toExt ?_ (by assumption)))) HC1.out (by simp)) (sTb_mk (OD.toExt (OD.toExt HS5.out HX1.out) (by refine x'z ?_; repeat (with_reducible (first | exact x'a _ _ | exact x'b _ | exact x'c (by assumption) | refine x'd ?_ (by assumption) | refine x'e ?_ _ | refine x'f ?_ _ | refine x'g ?_ | refine x'h ?_ ?_ _ | refine x'i ?_ _ | refine x'j ?_ | refine x'k ?_ _ | refine x'l ?_ _ _ | refine x'm ?_ | assumption | (refine x'n ?_; omega) | omega))))) (by rfl) (by simp [Value.oneCell']) (HS1.out.toExt (by refine x'z ?_; repeat (with_reducible (first | exact x'a _ _ | exact x'b _ | exact x'c (by assumption) | refine x'd ?_ (by assumption) | refine x'e ?_ _ | refine x'f ?_ _ | refine x'g ?_ | refine x'h ?_ ?_ _ | refine x'i ?_ _ | refine x'j ?_ | refine x'k ?_ _ | refine x'l ?_ _ _ | refine x'm ?_ | assumption | (refine x'n ?_; omega) | omega)))) (app3_n5 HN1.out HN5.out H1.out HG13.out HF5.out HL5.out) (by simp; omega) (by omega) ?_; intro v2 w2 F2 hS2 hC2 hN2 hF2; obtain ⟨m2, n2, c2⟩ := app3_2 HX1.out (by refine x'z ?_; repeat (with_reducible (first | exact x'a _ _ | exact x'b _ | exact x'c (by assumption) | refine x'd ?_ (by assumption) | refine x'e ?_ _ | refine x'f ?_ _ | refine x'g ?_ | refine x'h ?_ ?_ _ | refine x'i ?_ _ | refine x'j ?_ | refine x'k ?_ _ | refine x'l ?_ _ _ | refine x'm ?_ | assumption | (refine x'n ?_; omega) | omega))) hz36 hC2 H1.out hF2 HF5.out; obtain ⟨lb2, kb2, fb2⟩ := bx1 (HB6.out.chg c2 h81); obtain ⟨lt2, t20, t21, t22, ft2⟩ := box3 (HT6.out.chg c2 h10G); have HS2 := Lib.hid hS2; have HN2 := Lib.hid hN2; have HM22 := Lib.hid m2; have H2 := Lib.hid n2; have HC2 := Lib.hid c2; clear hS2 hN2 hC2 hF2 m2 n2 c2)
            refine hK.out _ _ ?_ (fun hHeld2 => ?_)
            · ((try dsimp only); go_keep)
            clear hHeld hK K
            have hHeld := hHeld2
            clear hHeld2
            try simp only [Act.put, List.setIfInBounds_toArray, List.set_cons_zero, List.set_cons_succ]
            refine wpAnyH_ready (rs := [13]) (by kernel_rfl) (by simp) ?_
            refine AllReadyH.cons (by simp only [List.getElem?_toArray, List.getElem?_cons_succ, List.getElem?_cons_zero]; rfl) (fun K hK => ?_) AllReadyH.nil
            (refine step_appP (E := sTb) (es := d.drop k) (G := G2) (by rfl) (.tmp 67) (.tmp 71) _ (by rfl) tTb (by rfl) (HS2.out.toExt (by refine x'z ?_; repeat (with_reducible (first | exact x'a _ _ | exact x'b _ | exact x'c (by assumption) | refine x'd ?_ (by assumption) | refine x'e ?_ _ | refine x'f ?_ _ | refine x'g ?_ | refine x'h ?_ ?_ _ | refine x'i ?_ _ | refine x'j ?_ | refine x'k ?_ _ | refine x'l ?_ _ _ | refine x'm ?_ | assumption | (refine x'n ?_; omega) | omega)))) HN2.out (by rfl) HDK.out ((HL2.out.chg HA2.out HC2.out HM3.out).toExt (fun ad e => Nat.lt_of_lt_of_le (HA2.out ad e).1 HC2.out.size) (by refine x'z ?_; repeat (with_reducible (first | exact x'a _ _ | exact x'b _ | exact x'c (by assumption) | refine x'd ?_ (by assumption) | refine x'e ?_ _ | refine x'f ?_ _ | refine x'g ?_ | refine x'h ?_ ?_ _ | refine x'i ?_ _ | refine x'j ?_ | refine x'k ?_ _ | refine x'l ?_ _ _ | refine x'm ?_ | assumption | (refine x'n ?_; omega) | omega)))) (app3_n2 HN2.out HM2.out H2.out HM3.out HG23.out) (by simp; omega) (by omega) ?_; intro v3 w3 F3 hS3 hC3 hN3 hF3; obtain ⟨n3, c3⟩ := app3_3 HC2.out (by refine x'z ?_; repeat (with_reducible (first | exact x'a _ _ | exact x'b _ | exact x'c (by assumption) | refine x'd ?_ (by assumption) | refine x'e ?_ _ | refine x'f ?_ _ | refine x'g ?_ | refine x'h ?_ ?_ _ | refine x'i ?_ _ | refine x'j ?_ | refine x'k ?_ _ | refine x'l ?_ _ _ | refine x'm ?_ | assumption | (refine x'n ?_; omega) | omega))) hz36 HG1.out HG2.out hC3 HM22.out HF5.out hF3; have B3 := HB6.out.chg c3 H89.out; obtain ⟨lb3, kb3, fb3⟩ := bx1 B3; obtain ⟨lt3, t30, t31, t32, ft3⟩ := box3 (HT6.out.chg c3 h10F); obtain ⟨A8, c8, rfl, _, _⟩ := hS3.form; obtain ⟨n8, hn8⟩ : ∃ n, ([] ++ d.take k ++ [(name, r)] ++ d.drop k).length = n := ⟨_, rfl⟩; rw [hn8] at hS3 ⊢; have HL8 := Lib.hid hn8; clear hn8; have HS30 := Lib.hid hS3; have HN8 := Lib.hid hN3; have HC3 := Lib.hid c3; have H3 := Lib.hid n3; have HB30 := Lib.hid B3; clear hS3 hN3 hC3 hF3 n3 c3 B3)
            refine hK.out _ _ ?_ (fun hHeld2 => ?_)
            · ((try dsimp only); go_keep)
            clear hHeld hK K
            have hHeld := hHeld2
            clear hHeld2
            try simp only [Act.put, List.setIfInBounds_toArray, List.set_cons_zero, List.set_cons_succ]
            refine wpAnyH_take (i := 14) (v := ?_) (by simp only [List.getElem?_toArray, List.getElem?_cons_succ, List.getElem?_cons_zero]; rfl) (by kernel_rfl) (by kernel_rfl) (by kernel_rfl) (by exact fun _ _ _ h => h) (Or.inl ⟨by rfl, ?_⟩) (by assumption) ?_
            rotate_left
            · (intro wS hSw; (try dsimp only at hSw); go_simp; try (with_reducible rfl))
            try simp only [Act.put, List.setIfInBounds_toArray, List.set_cons_zero, List.set_cons_succ]
            refine wpAnyH_done (by kernel_rfl) ?_ _
            refine LastQ.go (by simp only [List.getElem?_toArray, List.getElem?_cons_succ, List.getElem?_cons_zero]; rfl) (fun K hK => ?_)
            go_simp
            refine hK.out _ _ ?_
            clear hHeld hK K
            try simp only [Act.put, List.setIfInBounds_toArray, List.set_cons_zero, List.set_cons_succ]
            have e3 : [] ++ d.take k ++ [(name, r)] ++ d.drop k = insT name r d := by rw [HINS.out, List.nil_append]
            have hcw : Chg [b8] w3 (w3.setCell ⟨b8, 0, none⟩ (.slice A8 n8 c8)) := (Chg.refl [b8] w3).setCell (.inl (by simp)) _
            have HBN : Hid (BoxAt (w3.setCell ⟨b8, 0, none⟩ (.slice A8 n8 c8)) b8 #[.slice A8 n8 c8]) := Lib.hid HB30.out.set10
            have HS8 := Lib.hid (HS30.out.chg hcw (fun b hb h => by
              rw [List.mem_singleton.1 h] at hb
              rcases H3.out _ hb with h | h
              · have := H8F.out _ h; omega
              · omega))
            have HW8 := Lib.hid (show ∃ y, w3.setCell ⟨b8, 0, none⟩ (.slice A8 n8 c8) = ext W y from ((HC3.out.mono (G := b8 :: (F9 ++ F5)) (fun x hx => .inl (List.mem_cons_of_mem _ hx))).trans hcw (fun x hx => .inl (by rw [List.mem_singleton.1 hx]; simp))).isExt HX6.out (fun x hx => by
              rcases List.mem_cons.1 hx with h | h
              · omega
              · rcases List.mem_append.1 h with h | h
                · exact HF9W.out x h
                · have := HF5.out x h; omega))
            have HF8 := Lib.hid (show ∀ b ∈ F3, W.heap.size ≤ b from fun b hb => by
              rcases H3.out b hb with h | h
              · exact HF9W.out b h
              · omega)
            have HF := Lib.hid (show CutSR d name r b8 W (w3.setCell ⟨b8, 0, none⟩ (.slice A8 n8 c8)) from by
              refine ⟨A8, c8, F3, ?_, ?_, HN8.out, HF8.out, HW8.out⟩
              · rw [← e3, HL8.out]; exact HBN.out
              · rw [← e3, HL8.out]; exact HS8.out)
            clear hcw HBN HS8 HW8 HF8 e3 HC3 H3 HB30 HS30 HN8
            go_wp2_with fail
            go_meet
            exact HF.out
    obtain ⟨A8, c8, F8, hB9, hS9, hN8, hF8, hW8⟩ := hcut
    obtain ⟨W8, rfl⟩ : ∃ W, W = wc := ⟨_, rfl⟩
    have HB9 := Lib.hid hB9
    have HS9 := Lib.hid hS9
    have HN8 := Lib.hid hN8
    have HF8 := Lib.hid hF8
    have HW8 := Lib.hid hW8
    clear hB9 hS9 hN8 hF8 hW8
    have HWI := Lib.hid (HD.out.ins (name := name) (r := r) hnm (by omega) hrn HRL.out)
    obtain ⟨D2, hD2⟩ : ∃ D, insT name r d = D := ⟨_, rfl⟩
    rw [hD2] at HB9 HS9 HWI
    obtain ⟨_, _, eV, _, _, rV8⟩ := HS9.out.view sTb_v
    injection eV with eV _ eV2
    subst eV eV2
    obtain ⟨t2, ht2⟩ : ∃ t, dbB D2 = t := ⟨_, rfl⟩
    have HT2 := Lib.hid ht2
    have HZ1 := Lib.hid (fun (h : t2 = false) => setD_no (d := d) (name := name) (r := r) (by rw [hD2, ht2, h]))
    have HZ2 := Lib.hid (fun (h : t2 = true) => show setD d name r = (D2, true) by rw [← hD2]; exact setD_yes HT.out (by rw [hD2, ht2, h]))
    obtain ⟨lb8, kb8, fb8⟩ := bx1 HB9.out
    have HX8 := Lib.hid (trans_ext xW HW8.out)
    have hzw8 := size_of_ext HW8.out
    have hRl := HR.out.1
    clear ht2 hD2
    cases t2 with
    | false =>
      have HZ := Lib.hid (HZ1.out rfl)
      go_wp2_with (first
        | (go_at_call 21; refine (IsValidDatabase_w HWI.out (rV8.toExt (by refine x'z ?_; repeat (with_reducible (first | exact x'a _ _ | exact x'b _ | exact x'c (by assumption) | refine x'd ?_ (by assumption) | refine x'e ?_ _ | refine x'f ?_ _ | refine x'g ?_ | refine x'h ?_ ?_ _ | refine x'i ?_ _ | refine x'j ?_ | refine x'k ?_ _ | refine x'l ?_ _ _ | refine x'm ?_ | assumption | (refine x'n ?_; omega) | omega))))).mono ?_; rintro e w10 ⟨rfl, hx10⟩; rw [HT2.out]; obtain ⟨lp10, pp10, fp10⟩ := bx1 ((HP.out.toExt HW8.out).toExt hx10); have hv10 := h1.toExt (trans_ext HX8.out hx10))
        | (go_at_call 22; refine (copyDatabase_any HD.out hv10).mono ?_; rintro e w11 ⟨v9, F9', rfl, hx11, hS9, hN9, hF9⟩; obtain ⟨A9', c9', rfl⟩ := sDb_form hS9; have R9 := (HR.out.toExt HW8.out).toExt (trans_ext hx10 hx11); obtain ⟨lr9, r90, fr9⟩ := bx1 R9))
      have hzw10 := size_of_ext hx10
      have HXW := Lib.hid (trans_ext HX8.out (trans_ext hx10 hx11))
      have hX := HXW.out
      refine bodyPost_ret (v := .tuple #[.agg #[.slice A9' d.length c9'], .bool false]) (by simp [results, Try.results9, go_sem, *]) rfl ⟨_, F9', by rw [HZ.out], (by refine x'z ?_; repeat (with_reducible (first | exact x'a _ _ | exact x'b _ | exact x'c (by assumption) | refine x'd ?_ (by assumption) | refine x'e ?_ _ | refine x'f ?_ _ | refine x'g ?_ | refine x'h ?_ ?_ _ | refine x'i ?_ _ | refine x'j ?_ | refine x'k ?_ _ | refine x'l ?_ _ _ | refine x'm ?_ | assumption | (refine x'n ?_; omega) | omega))), by rw [HZ.out]; exact OD.chg (G := [w.heap.size + 1 + 1]) hS9 (by repeat (with_reducible (first | exact Chg.refl _ _ | refine Chg.trans0 ?_ (by assumption) | refine Chg.extS ?_ _ | refine Chg.alloc ?_ _ | refine Chg.drew ?_ | refine Chg.setCell ?_ (.inl (by simp)) _))) (fun b hb h => by have := hF9 b hb; rw [List.mem_singleton.1 h] at this; omega), hN9, fun b hb => by have := hF9 b hb; omega⟩
    | true =>
      have HZ := Lib.hid (HZ2.out rfl)
      go_wp2_with (go_at_call 21; refine (IsValidDatabase_w HWI.out (rV8.toExt (by refine x'z ?_; repeat (with_reducible (first | exact x'a _ _ | exact x'b _ | exact x'c (by assumption) | refine x'd ?_ (by assumption) | refine x'e ?_ _ | refine x'f ?_ _ | refine x'g ?_ | refine x'h ?_ ?_ _ | refine x'i ?_ _ | refine x'j ?_ | refine x'k ?_ _ | refine x'l ?_ _ _ | refine x'm ?_ | assumption | (refine x'n ?_; omega) | omega))))).mono ?_; rintro e w10 ⟨rfl, hx10⟩; rw [HT2.out]; obtain ⟨lb10, kb10, fb10⟩ := bx1 (HB9.out.toExt hx10); obtain ⟨lr9, r90, fr9⟩ := bx1 ((HR.out.toExt HW8.out).toExt hx10))
      have hX := trans_ext HX8.out hx10
      have hS10 : sDb w10 [.slice A8 D2.length c8] D2 F8 := OD.toExt ⟨_, rfl, HS9.out⟩ hx10
      refine bodyPost_ret (v := .tuple #[.agg #[.slice A8 D2.length c8], .bool true]) (by simp [results, Try.results9, go_sem, *]) rfl ⟨_, F8, by rw [HZ.out], (by refine x'z ?_; repeat (with_reducible (first | exact x'a _ _ | exact x'b _ | exact x'c (by assumption) | refine x'd ?_ (by assumption) | refine x'e ?_ _ | refine x'f ?_ _ | refine x'g ?_ | refine x'h ?_ ?_ _ | refine x'i ?_ _ | refine x'j ?_ | refine x'k ?_ _ | refine x'l ?_ _ _ | refine x'm ?_ | assumption | (refine x'n ?_; omega) | omega))), by rw [HZ.out]; exact OD.chg (G := [w.heap.size + 1 + 1]) hS10 (by repeat (with_reducible (first | exact Chg.refl _ _ | refine Chg.trans0 ?_ (by assumption) | refine Chg.extS ?_ _ | refine Chg.alloc ?_ _ | refine Chg.drew ?_ | refine Chg.setCell ?_ (.inl (by simp)) _))) (fun b hb h => by have := HF8.out b hb; rw [List.mem_singleton.1 h] at this; omega), HN8.out, fun b hb => by have := HF8.out b hb; omega⟩
end Go.Proofs.Ytgnmpjjlclbieaa
