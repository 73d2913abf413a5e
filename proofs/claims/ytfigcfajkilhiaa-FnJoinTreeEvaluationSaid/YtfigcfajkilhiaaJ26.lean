/- Contracts of functions that the statement reaches. -/
import Derived.Test.YtfigcfajkilhiaaJ20
import Derived.Test.YtfigcfajkilhiaaJ25
namespace Go.Proofs.Ytfigcfajkilhiaa
open Go.RowKit
def BothP (w0 : World) (g : Nat) (w : World) (e : Ending) (w' : World) : Prop := ∃ A c d v0 v1 v2 q, e = .returned (.tuple #[.agg #[.slice A d.length c], .agg #[v0, v1, v2]]) ∧ (∀ GG w2, (∀ x ∈ GG, x < w.heap.size) → Chg GG w' w2 → RV 3 vTb w2 A d ∧ vQ w2 [v0, v1, v2] q) ∧ d.length ≤ c ∧ DrD d ∧ QaD q ∧ Cur w0 w' g ∧ Chg [g] w w'
theorem OD.pers {α : Type} {E : SE α} [SMono E] {V : VE α} {w : World} {c : List Value} {d : α} {F G : List Nat} (h : E w c d F) (hV : ∀ w c d F, E w c d F → V w c d) (hF : ∀ b ∈ F, b ∉ G) : ∀ w2, Chg G w w2 → V w2 c d := fun w2 hC => hV w2 _ _ _ (OD.chg h hC hF)
theorem SV.persN {α : Type} {te size n : Nat} {E : SE α} [SMono E] {V : VE α} {w : World} {A : Option Addr} {m c : Nat} {ds : List α} {F : List Nat} (h : SV te size E w (.slice A m c) ds F) (hV : ∀ w c d F, E w c d F → V w c d) (hF : ∀ b ∈ F, n ≤ b) : ∀ (GG : List Nat) w2, (∀ x ∈ GG, x < n) → Chg GG w w2 → RV size V w2 A ds := fun GG w2 hG hC => (h.chg hC fun b hb hx => by have := hF b hb; have := hG b hx; omega).toView (hV w2)
theorem pers_two {w WW : World} {A : Option Addr} {d : Dbd} {c : List Value} {q : Qd} {FQ : List Nat} {n : Nat} (hV : ∀ (GG : List Nat) w2, (∀ x ∈ GG, x < n) → Chg GG WW w2 → RV 3 vTb w2 A d) (hn : w.heap.size + 2 ≤ n) (hQ : sQ WW c q FQ) (hF : ∀ b ∈ FQ, w.heap.size + 1 < b) :
    ∀ (GG : List Nat) w2, (∀ x ∈ GG, x < w.heap.size) → Chg (w.heap.size :: (w.heap.size + 1) :: GG) WW w2 → RV 3 vTb w2 A d ∧ vQ w2 c q := fun GG w2 hG hC => by
  have hx : ∀ x ∈ w.heap.size :: (w.heap.size + 1) :: GG, x < w.heap.size + 2 := fun x hx => by
    rcases List.mem_cons.1 hx with h | h
    · omega
    · rcases List.mem_cons.1 h with h | h
      · omega
      · have := hG x h; omega
  exact ⟨hV _ w2 (fun x h => by have := hx x h; omega) hC, sQ_v _ _ _ (OD.chg hQ hC fun b hb h => by have := hx b h; have := hF b hb; omega)⟩
set_option maxRecDepth 100000 in
set_option maxHeartbeats 40000000 in
theorem l7Both_any {g : Nat} {w0 w : World} (hc : Cur w0 w g) : Calls Try.prog 154 #[.pointer (some ⟨g, 0, none⟩)] w (BothP w0 g w) := by
  have hgw := hc.lt
  have hw0w := size_of_ext hc.2.1
  have Hc0 := Lib.hid hc
  clear hc
  go_enter Try.func154, Try.ntmps154
  go_upto_region 1 with fail
  refine wp_name ?_
  intro W hW
  have xW : ∃ y, W = ext w y := by rw [hW.out]; exact (by refine x'z ?_; repeat (with_reducible (first | exact x'a _ _ | exact x'b _ | exact x'c (by assumption) | refine x'd ?_ (by assumption) | refine x'e ?_ _ | refine x'f ?_ _ | refine x'g ?_ | refine x'h ?_ ?_ _ | refine x'i ?_ _ | refine x'j ?_ | refine x'k ?_ _ | refine x'l ?_ _ _ | refine x'm ?_ | assumption | (refine x'n ?_; omega) | omega)))
  have BW0 : BoxAt W (w.heap.size) #[.slice none 0 0] := by rw [hW.out]; refine ⟨?_, fun j => ?_, fun j => ?_⟩ <;> go_simp
  obtain ⟨lW0, bW0, fW0⟩ := BW0
  have cW0_0 : W.cell? ⟨w.heap.size, 0, none⟩ = some (.slice none 0 0) := bW0 0
  have BW1 : BoxAt W (w.heap.size + 1) #[.int .i64 0, .slice none 0 0, .slice none 0 0] := by rw [hW.out]; refine ⟨?_, fun j => ?_, fun j => ?_⟩ <;> go_simp
  obtain ⟨lW1, bW1, fW1⟩ := BW1
  have cW1_0 : W.cell? ⟨w.heap.size + 1, 0, none⟩ = some (.int .i64 0) := bW1 0
  have cW1_1 : W.cell? ⟨w.heap.size + 1, 1, none⟩ = some (.slice none 0 0) := bW1 1
  have cW1_2 : W.cell? ⟨w.heap.size + 1, 2, none⟩ = some (.slice none 0 0) := bW1 2
  clear hW
  have HR := Lib.hid (show BoxAt W w.heap.size #[.slice none 0 0] from ⟨lW0, bW0, fW0⟩)
  have HS := Lib.hid (show BoxAt W (w.heap.size + 1) #[.int .i64 0, .slice none 0 0, .slice none 0 0] from ⟨lW1, bW1, fW1⟩)
  clear bW0 fW0 cW0_0 bW1 fW1 cW1_0 cW1_1 cW1_2
  go_wp2_with fail
  refine (l6Db_any (Hc0.out.toExt xW)).mono ?_
  rintro e w1 ⟨v1, F, d, rfl, hS1, hN, hF1, hL, hD, hc1, hC1⟩
  obtain ⟨A1, cap, rfl, hcap, _⟩ := hS1.form
  have HC1 := Lib.hid ((Chg.ofExt (F := [g]) xW).trans hC1 (fun x hx => .inl hx))
  have HR1 := Lib.hid (HR.out.chg hC1 (by simp; omega))
  have HT1 := Lib.hid (HS.out.chg hC1 (by simp; omega))
  have hz1 := hC1.size
  have HS1 := Lib.hid hS1
  have HD := Lib.hid hD
  have Hc1 := Lib.hid hc1
  have HF := Lib.hid (show ∀ b ∈ F, w.heap.size + 1 < b from fun b hb => by have := hF1 b hb; omega)
  clear hS1 hN hD hL hc1 hC1 hF1 HR HS
  go_upto_region 2 with fail
  refine wp_name ?_
  intro W2 hW2
  have x2 : ∃ y, W2 = ext w1 y := by rw [hW2.out]; exact (by refine x'z ?_; repeat (with_reducible (first | exact x'a _ _ | exact x'b _ | exact x'c (by assumption) | refine x'd ?_ (by assumption) | refine x'e ?_ _ | refine x'f ?_ _ | refine x'g ?_ | refine x'h ?_ ?_ _ | refine x'i ?_ _ | refine x'j ?_ | refine x'k ?_ _ | refine x'l ?_ _ _ | refine x'm ?_ | assumption | (refine x'n ?_; omega) | omega)))
  have B2 : BoxAt W2 w1.heap.size #[.slice A1 d.length cap] := by rw [hW2.out]; exact (by repeat (with_reducible (first | assumption | exact BoxAt.new _ _ _ | apply BoxAt.set10 | apply BoxAt.set2 | refine BoxAt.set2' ?_ (by omega) | apply BoxAt.setP0 | apply BoxAt.setP1 | refine BoxAt.setO ?_ (by omega) | refine BoxAt.alloc ?_ _ | refine BoxAt.drew ?_ | refine BoxAt.toExt ?_ (by assumption))))
  have HR2 := Lib.hid (HR1.out.toExt x2)
  have HT2 := Lib.hid (HT1.out.toExt x2)
  have HC2 := Lib.hid (HC1.out.trans0 x2)
  have Hc2 := Lib.hid (Hc1.out.toExt x2)
  have HS2 := Lib.hid (HS1.out.toExt x2)
  have hz2 := size_of_ext x2
  have HB2 := Lib.hid B2
  obtain ⟨b4, q4⟩ : ∃ b, w1.heap.size = b := ⟨_, rfl⟩
  rw [q4] at HB2 B2 hz1 hz2 ⊢
  have hb4 : b4 < W2.heap.size := B2.1
  have n4g : b4 ≠ g := by omega
  clear hW2 B2 q4 HS1 HR1 HT1 HC1 Hc1
  go_wp2_with fail
  refine (l7Query_any Hc2.out).mono ?_
  rintro e w3 ⟨u0, u1, u2, FQ, q, rfl, hS3, hN3, hF3, hQ3, hc3, hC3⟩
  obtain ⟨A3, a3, B3, b3, rfl, rfl, rfl⟩ := sQ_form hS3
  have HQ := Lib.hid hQ3.q
  have HSQ := Lib.hid hS3
  have HR3 := Lib.hid (HR2.out.chg hC3 (by simp; omega))
  have HT3 := Lib.hid (HT2.out.chg hC3 (by simp; omega))
  have HB3 := Lib.hid (HB2.out.chg hC3 (by simpa using n4g))
  have HC3 := Lib.hid (HC2.out.trans hC3 (fun x hx => .inl hx))
  have HS3 := Lib.hid (HS2.out.chg hC3 (fun b hb h => by have := HF.out b hb; rw [List.mem_singleton.1 h] at this; omega))
  have Hc3 := Lib.hid hc3
  have HFQ := Lib.hid (show ∀ b ∈ FQ, w.heap.size + 1 < b from fun b hb => by have := hF3 b hb; omega)
  have hz3 := hC3.size
  clear hS3 hN3 hF3 hQ3 hc3 hC3 HR2 HT2 HB2 HC2 HS2 Hc2
  go_upto_region 3 with fail
  refine wp_name ?_
  intro W4 hW4
  have x4 : ∃ y, W4 = ext w3 y := by rw [hW4.out]; exact (by refine x'z ?_; repeat (with_reducible (first | exact x'a _ _ | exact x'b _ | exact x'c (by assumption) | refine x'd ?_ (by assumption) | refine x'e ?_ _ | refine x'f ?_ _ | refine x'g ?_ | refine x'h ?_ ?_ _ | refine x'i ?_ _ | refine x'j ?_ | refine x'k ?_ _ | refine x'l ?_ _ _ | refine x'm ?_ | assumption | (refine x'n ?_; omega) | omega)))
  have B5 : BoxAt W4 w3.heap.size #[.int .i64 q.1, .slice A3 q.2.1.length a3, .slice B3 q.2.2.length b3] := by rw [hW4.out]; exact (by repeat (with_reducible (first | assumption | exact BoxAt.new _ _ _ | apply BoxAt.set3 | refine BoxAt.set3' ?_ (by omega) | apply BoxAt.set30 | apply BoxAt.set31 | apply BoxAt.set32 | apply BoxAt.set2 | refine BoxAt.set2' ?_ (by omega) | apply BoxAt.setP0 | apply BoxAt.setP1 | refine BoxAt.setO ?_ (by omega) | refine BoxAt.alloc ?_ _ | refine BoxAt.drew ?_ | refine BoxAt.toExt ?_ (by assumption))))
  have HR4 := Lib.hid (HR3.out.toExt x4)
  have HT4 := Lib.hid (HT3.out.toExt x4)
  have HB4 := Lib.hid (HB3.out.toExt x4)
  have HC4 := Lib.hid (HC3.out.trans0 x4)
  have Hc4 := Lib.hid (Hc3.out.toExt x4)
  have HS4 := Lib.hid (HS3.out.toExt x4)
  have HQ4 := Lib.hid (OD.toExt HSQ.out x4)
  have HB5 := Lib.hid B5
  have hz4 := size_of_ext x4
  obtain ⟨b5, q5⟩ : ∃ b, w3.heap.size = b := ⟨_, rfl⟩
  rw [q5] at HB5 B5 hz3 hz4 ⊢
  have hb5 : b5 < W4.heap.size := B5.1
  have n5g : b5 ≠ g := by omega
  clear hW4 B5 q5 HR3 HT3 HB3 HC3 Hc3 HS3 HSQ
  go_wp2_with fail
  refine (l1Below_any Hc4.out (by omega) (by omega)).mono ?_
  rintro e w5 ⟨x, rfl, hx0, hx1, hc5, hC5⟩
  have HR5 := Lib.hid (HR4.out.chg hC5 (by simp; omega))
  have HT5 := Lib.hid (HT4.out.chg hC5 (by simp; omega))
  have HB5d := Lib.hid (HB4.out.chg hC5 (by simpa using n4g))
  have HB5q := Lib.hid (HB5.out.chg hC5 (by simpa using n5g))
  have HC5 := Lib.hid (HC4.out.trans hC5 (fun x hx => .inl hx))
  have Hc5 := Lib.hid hc5
  have HS5 := Lib.hid (HS4.out.chg hC5 (fun b hb h => by have := HF.out b hb; rw [List.mem_singleton.1 h] at this; omega))
  have HQ5 := Lib.hid (OD.chg HQ4.out hC5 (fun b hb h => by have := HFQ.out b hb; rw [List.mem_singleton.1 h] at this; omega))
  have hz5 := hC5.size
  clear hc5 hC5 HR4 HT4 HB4 HC4 Hc4 HS4 HQ4 HB5
  obtain ⟨l5d, k5d, f5d⟩ := bx1 HB5d.out
  obtain ⟨l5q, k5q0, k5q1, k5q2, f5q⟩ := box3 HB5q.out
  by_cases e0 : x = 0
  · have q0 : (x == 0) = true := by simp [e0]
    have q1 : (x == 1) = false := by simp [e0]
    clear e0
    go_upto_region 5 with fail
    go_region_with (first | (go_at_call 141; (with_reducible refine (l6Any_any (Hc5.out.toExt (drew_ext _))).mono ?_); rintro e w6 ⟨A6, c6, d6, rfl, hV6, hcap6, hD6, hc6, hC6⟩; obtain ⟨l6q, k6q0, k6q1, k6q2, f6q⟩ := box3 ((HB5q.out.drew).chg hC6 (by simpa using n5g)); obtain ⟨l6r, k6r, f6r⟩ := bx1 ((HR5.out.drew).chg hC6 (by simp; omega)); obtain ⟨l6t, k6t0, k6t1, k6t2, f6t⟩ := box3 ((HT5.out.drew).chg hC6 (by simp; omega)); have HP9 := Lib.hid (pers_two (w := w) (n := w5.drew.heap.size) hV6 (by rw [show w5.drew.heap.size = w5.heap.size from rfl]; omega) (OD.chg (OD.toExt HQ5.out (drew_ext _)) hC6 (fun b hb h => by have := HFQ.out b hb; rw [List.mem_singleton.1 h] at this; omega)) HFQ.out); have HCP := Lib.hid hcap6; have HD9 := Lib.hid hD6; have HQ9 := HQ; have Hc9 := Lib.hid hc6; have HC9 := Lib.hid (HC5.out.drew.trans hC6 (fun x hx => .inl hx)); clear hV6 hD6 hc6 hC6))
    all_goals
      go_wp2
      refine bodyPost_ret (v := .tuple #[.agg #[.slice A6 d6.length c6], .agg #[.int .i64 q.1, .slice A3 q.2.1.length a3, .slice B3 q.2.2.length b3]]) (by simp [results, Try.results154, go_sem, *]) rfl ?_
      show BothP w0 g w _ _
      have hC9 := (((((Chg.refl [w.heap.size, w.heap.size + 1] w6).setCell (p := ⟨w.heap.size, 0, none⟩) (.inl (by simp)) (.slice A6 d6.length c6)).setCell (p := ⟨w.heap.size + 1, 0, none⟩) (.inl (by simp)) (.int .i64 q.1)).setCell (p := ⟨w.heap.size + 1, 1, none⟩) (.inl (by simp)) (.slice A3 q.2.1.length a3)).setCell (p := ⟨w.heap.size + 1, 2, none⟩) (.inl (by simp)) (.slice B3 q.2.2.length b3))
      exact ⟨A6, c6, d6, _, _, _, q, rfl, fun GG w2 hG hC2 => HP9.out GG w2 hG ((hC9.mono (G := w.heap.size :: (w.heap.size + 1) :: GG) (fun x hx => .inl (by simp at hx; rcases hx with h | h <;> simp [h]))).trans hC2 (fun x hx => .inl (by simp [hx]))), HCP.out, HD9.out, HQ9.out, Hc9.out.chg hC9 (by simp; omega) (by simp; omega), HC9.out.trans hC9 (fun x hx => .inr (by simp at hx; omega))⟩
  · have q0 : (x == 0) = false := by simp [e0]
    by_cases e1 : x = 1
    · have q1 : (x == 1) = true := by simp [e1]
      clear e0 e1
      go_upto_region 7 with fail
      go_region_law (first | (rw [if_pos (by simp [Region.wanted])]; go_wp2_with (go_at_call 145; refine (l7Any_any (Hc5.out.toExt (drew_ext _))).mono ?_; rintro e w6 ⟨u0, u1, u2, F6, q6, rfl, hS6, hN6, hF6, hQ6, hc6, hC6⟩; obtain ⟨A6, a6, B6, b6, rfl, rfl, rfl⟩ := sQ_form hS6; obtain ⟨l6d, k6d, f6d⟩ := bx1 ((HB5d.out.drew).chg hC6 (by simpa using n4g)); obtain ⟨l6r, k6r, f6r⟩ := bx1 ((HR5.out.drew).chg hC6 (by simp; omega)); obtain ⟨l6t, k6t0, k6t1, k6t2, f6t⟩ := box3 ((HT5.out.drew).chg hC6 (by simp; omega)); have HP9 := Lib.hid (pers_two (w := w) (n := w.heap.size + 2) (((HS5.out.toExt (drew_ext _)).chg hC6 (fun b hb h => by have := HF.out b hb; rw [List.mem_singleton.1 h] at this; omega)).persN (fun _ => sTb_v) (fun b hb => HF.out b hb)) (Nat.le_refl _) hS6 (fun b hb => by have h := hF6 b hb; rw [show w5.drew.heap.size = w5.heap.size from rfl] at h; omega)); have HCP := Lib.hid hcap; have HD9 := HD; have HQ9 := Lib.hid hQ6; have Hc9 := Lib.hid hc6; have HC9 := Lib.hid (HC5.out.drew.trans hC6 (fun x hx => .inl hx)); clear hS6 hN6 hF6 hQ6 hc6 hC6)))
      all_goals
        go_wp2
        refine bodyPost_ret (v := .tuple #[.agg #[.slice A1 d.length cap], .agg #[.int .i64 q6.1, .slice A6 q6.2.1.length a6, .slice B6 q6.2.2.length b6]]) (by simp [results, Try.results154, go_sem, *]) rfl ?_
        show BothP w0 g w _ _
        have hC9 := (((((Chg.refl [w.heap.size, w.heap.size + 1] w6).setCell (p := ⟨w.heap.size, 0, none⟩) (.inl (by simp)) (.slice A1 d.length cap)).setCell (p := ⟨w.heap.size + 1, 0, none⟩) (.inl (by simp)) (.int .i64 q6.1)).setCell (p := ⟨w.heap.size + 1, 1, none⟩) (.inl (by simp)) (.slice A6 q6.2.1.length a6)).setCell (p := ⟨w.heap.size + 1, 2, none⟩) (.inl (by simp)) (.slice B6 q6.2.2.length b6))
        exact ⟨A1, cap, d, _, _, _, q6, rfl, fun GG w2 hG hC2 => HP9.out GG w2 hG ((hC9.mono (G := w.heap.size :: (w.heap.size + 1) :: GG) (fun x hx => .inl (by simp at hx; rcases hx with h | h <;> simp [h]))).trans hC2 (fun x hx => .inl (by simp [hx]))), HCP.out, HD9.out, HQ9.out, Hc9.out.chg hC9 (by simp; omega) (by simp; omega), HC9.out.trans hC9 (fun x hx => .inr (by simp at hx; omega))⟩
    · have q1 : (x == 1) = false := by simp [e1]
      clear e0 e1
      have HP9 := Lib.hid (pers_two (w := w) (WW := w5.drew) (n := w.heap.size + 2) ((HS5.out.toExt (drew_ext _)).persN (fun _ => sTb_v) (fun b hb => HF.out b hb)) (Nat.le_refl _) (OD.toExt HQ5.out (drew_ext _)) HFQ.out)
      have HCP := Lib.hid hcap
      have HD9 := HD
      have HQ9 := HQ
      have Hc9 := Lib.hid (Hc5.out.toExt (drew_ext _))
      have HC9 := Lib.hid (HC5.out.drew)
      obtain ⟨l6r, k6r, f6r⟩ := bx1 HR5.out
      obtain ⟨l6t, k6t0, k6t1, k6t2, f6t⟩ := box3 HT5.out
      go_upto_region 8 with fail
      go_region_with (fail)
      all_goals
        go_wp2
        refine bodyPost_ret (v := .tuple #[.agg #[.slice A1 d.length cap], .agg #[.int .i64 q.1, .slice A3 q.2.1.length a3, .slice B3 q.2.2.length b3]]) (by simp [results, Try.results154, go_sem, *]) rfl ?_
        show BothP w0 g w _ _
        have hC9 := (((((Chg.refl [w.heap.size, w.heap.size + 1] w5.drew).setCell (p := ⟨w.heap.size, 0, none⟩) (.inl (by simp)) (.slice A1 d.length cap)).setCell (p := ⟨w.heap.size + 1, 0, none⟩) (.inl (by simp)) (.int .i64 q.1)).setCell (p := ⟨w.heap.size + 1, 1, none⟩) (.inl (by simp)) (.slice A3 q.2.1.length a3)).setCell (p := ⟨w.heap.size + 1, 2, none⟩) (.inl (by simp)) (.slice B3 q.2.2.length b3))
        exact ⟨A1, cap, d, _, _, _, q, rfl, fun GG w2 hG hC2 => HP9.out GG w2 hG ((hC9.mono (G := w.heap.size :: (w.heap.size + 1) :: GG) (fun x hx => .inl (by simp at hx; rcases hx with h | h <;> simp [h]))).trans hC2 (fun x hx => .inl (by simp [hx]))), HCP.out, HD9.out, HQ9.out, Hc9.out.chg hC9 (by simp; omega) (by simp; omega), HC9.out.trans hC9 (fun x hx => .inr (by simp at hx; omega))⟩
end Go.Proofs.Ytfigcfajkilhiaa
