/- Contracts of functions that the statement reaches. -/
import Derived.Deep.RegionLaw
import Derived.Deep.RegionHeld3
import Derived.Test.YtfigcfajkilhiaaJ26
import Derived.Test.YtfigcfajkilhiaaJ33
namespace Go.Proofs.Ytfigcfajkilhiaa
open Go.RowKit
theorem jtQ_len (q : Qd) : (jtQ q).length ≤ q.2.1.length := by
  unfold jtQ
  split
  · have := gyoQ_len q.2.1; omega
  · simp
def TreeDP (w0 : World) (g : Nat) (w : World) (e : Ending) (w' : World) : Prop := ∃ A c F ps, e = .returned (.agg #[.slice A ps.length c]) ∧ SV 3 1 sI w' (.slice A ps.length c) ps F ∧ (∀ b ∈ F, w.heap.size ≤ b) ∧ ps.length ≤ 10 ∧ Cur w0 w' g ∧ Chg [g] w w'
set_option maxRecDepth 100000 in
set_option maxHeartbeats 16000000 in
theorem l10Tree_any {B C : Option Addr} {e1 f1 g : Nat} {q : Qd} {w0 w : World} (hc : Cur w0 w g) (hq : QaD q) (h2 : vQ w [.int .i64 q.1, .slice B q.2.1.length e1, .slice C q.2.2.length f1] q) :
    Calls Try.prog 191 #[.pointer (some ⟨g, 0, none⟩), .agg #[.int .i64 q.1, .slice B q.2.1.length e1, .slice C q.2.2.length f1]] w (TreeDP w0 g w) := by
  have hgw := hc.lt
  have hw0w := size_of_ext hc.2.1
  have Hc0 := Lib.hid hc
  have HQB := Lib.hid hq.b
  have HV := Lib.hid h2
  have hqn := hq.n
  have hq1 := hq.n1
  clear hc hq h2
  go_enter Try.func191, Try.ntmps191
  go_upto_region 1 with fail
  refine wp_name ?_
  intro W hW
  have xW : ∃ y, W = ext w y := by rw [hW.out]; exact (by refine x'z ?_; repeat (with_reducible (first | exact x'a _ _ | exact x'b _ | exact x'c (by assumption) | refine x'd ?_ (by assumption) | refine x'e ?_ _ | refine x'f ?_ _ | refine x'g ?_ | refine x'h ?_ ?_ _ | refine x'i ?_ _ | refine x'j ?_ | refine x'k ?_ _ | refine x'l ?_ _ _ | refine x'm ?_ | assumption | (refine x'n ?_; omega) | omega)))
  have BW0 : BoxAt W (w.heap.size) #[.int .i64 q.1, .slice B q.2.1.length e1, .slice C q.2.2.length f1] := by rw [hW.out]; refine ⟨?_, fun j => ?_, fun j => ?_⟩ <;> go_simp
  obtain ⟨lW0, bW0, fW0⟩ := BW0
  have cW0_0 : W.cell? ⟨w.heap.size, 0, none⟩ = some (.int .i64 q.1) := bW0 0
  have cW0_1 : W.cell? ⟨w.heap.size, 1, none⟩ = some (.slice B q.2.1.length e1) := bW0 1
  have cW0_2 : W.cell? ⟨w.heap.size, 2, none⟩ = some (.slice C q.2.2.length f1) := bW0 2
  have BW1 : BoxAt W (w.heap.size + 1) #[.slice none 0 0] := by rw [hW.out]; refine ⟨?_, fun j => ?_, fun j => ?_⟩ <;> go_simp
  obtain ⟨lW1, bW1, fW1⟩ := BW1
  have cW1_0 : W.cell? ⟨w.heap.size + 1, 0, none⟩ = some (.slice none 0 0) := bW1 0
  clear hW
  have HQ := Lib.hid (show BoxAt W w.heap.size #[.int .i64 q.1, .slice B q.2.1.length e1, .slice C q.2.2.length f1] from ⟨lW0, bW0, fW0⟩)
  have HR := Lib.hid (show BoxAt W (w.heap.size + 1) #[.slice none 0 0] from ⟨lW1, bW1, fW1⟩)
  have HcW := Lib.hid (Hc0.out.toExt xW)
  have hzW := size_of_ext xW
  clear bW0 bW1 fW1 cW1_0
  go_wp2_with fail
  refine (specBuildJoinTree_any HQB.out (VD.toExt HV.out xW)).mono ?_
  rintro e w2 ⟨v2, F2, rfl, hx2, hS2, hF2⟩
  have hjl := jtQ_len q
  obtain ⟨ps, hps⟩ : ∃ l, jtQ q = l := ⟨_, rfl⟩
  rw [hps] at hS2 hjl
  obtain ⟨A2, c2, rfl, _, _⟩ := hS2.form
  have HS2 := Lib.hid hS2
  have HF2 := Lib.hid (show ∀ b ∈ F2, w.heap.size + 1 < b from fun b hb => by have := hF2 b hb; omega)
  obtain ⟨t2, ht2⟩ : ∃ t, acyB q = t := ⟨_, rfl⟩
  rw [ht2]
  have Hx2 := Lib.hid hx2
  clear hS2 hF2 hps ht2 hx2 lW0 fW0 cW0_0 cW0_1 cW0_2
  go_upto_region 2 with fail
  refine wp_name ?_
  intro W3 hW
  have x3 : ∃ y, W3 = ext w2 y := by rw [hW.out]; exact (by refine x'z ?_; repeat (with_reducible (first | exact x'a _ _ | exact x'b _ | exact x'c (by assumption) | refine x'd ?_ (by assumption) | refine x'e ?_ _ | refine x'f ?_ _ | refine x'g ?_ | refine x'h ?_ ?_ _ | refine x'i ?_ _ | refine x'j ?_ | refine x'k ?_ _ | refine x'l ?_ _ _ | refine x'm ?_ | assumption | (refine x'n ?_; omega) | omega)))
  have B5 : BoxAt W3 w2.heap.size #[.slice A2 ps.length c2] := by rw [hW.out]; exact BoxAt.new _ _ _
  have xx := trans_ext Hx2.out x3
  have HQ3 := Lib.hid (HQ.out.toExt xx)
  have HR3 := Lib.hid (HR.out.toExt xx)
  have Hc3 := Lib.hid (HcW.out.toExt xx)
  have HS3 := Lib.hid (HS2.out.toExt x3)
  have HC3 := Lib.hid (Chg.ofExt (F := [g]) (trans_ext xW xx))
  have hl2 := HS2.out.lt
  have hz2 := size_of_ext Hx2.out
  obtain ⟨b5, q5⟩ : ∃ b, w2.heap.size = b := ⟨_, rfl⟩
  have HF3 := Lib.hid (show ∀ b ∈ F2, w.heap.size + 1 < b ∧ b < b5 from fun b hb => ⟨HF2.out b hb, by have := hl2 b hb; omega⟩)
  rw [q5] at B5 hz2 ⊢
  have h53 := B5.1
  have n5g : b5 ≠ g := by omega
  have HT3 := Lib.hid B5
  obtain ⟨l5, k5, f5⟩ := bx1 B5
  clear hW q5 B5 x3 xx HQ HR HcW HS2 HF2 hl2 Hx2
  go_cut [20] (fun v wx => ∃ t, v = .bool t ∧ Chg [g] W3 wx ∧ Cur w0 wx g)
  case first =>
    by_cases h0 : ps.length = 0
    · have q0 : ((ps.length : Int) == 0) = true := by rw [h0]; rfl
      clear h0
      go_wp2_with fail
      go_meet
      exact ⟨_, rfl, Chg.refl _ _, Hc3.out⟩
    · have q0 : ((ps.length : Int) == 0) = false := by rw [beq_eq_false_iff_ne]; omega
      clear h0
      go_wp2_with (go_at_call 146; refine (l1Once_any Hc3.out (by omega) (by omega)).mono ?_; rintro e w7 ⟨t, rfl, hc7, hC7⟩)
      go_meet
      exact ⟨_, rfl, hC7, hc7⟩
  obtain ⟨t, rfl, hC4, hc4⟩ := hcut
  obtain ⟨W4, rfl⟩ : ∃ W, W = wc := ⟨_, rfl⟩
  have HQ4 := Lib.hid (HQ3.out.chg hC4 (by simp; omega))
  have HR4 := Lib.hid (HR3.out.chg hC4 (by simp; omega))
  have HT4 := Lib.hid (HT3.out.chg hC4 (by simpa using n5g))
  have HS4 := Lib.hid (HS3.out.chg hC4 (fun b hb h => by have := HF3.out b hb; rw [List.mem_singleton.1 h] at this; omega))
  have HC4 := Lib.hid (HC3.out.trans hC4 (fun x hx => .inl hx))
  have Hc4 := Lib.hid hc4
  have hz4 := hC4.size
  clear hC4 hc4 HQ3 HR3 HT3 HS3 HC3 Hc3 l5 k5 f5
  obtain ⟨l5, k5, f5⟩ := bx1 HT4.out
  cases t with
  | false =>
    have HT9 := HT4
    have HR9 := HR4
    have HS9 := HS4
    have HF9 := Lib.hid (show ∀ b ∈ F2, w.heap.size + 1 < b from fun b hb => (HF3.out b hb).1)
    have HL9 := Lib.hid (show ps.length ≤ 10 by omega)
    have HC9 := HC4
    have Hc9 := Hc4
    clear l5 k5 f5
    obtain ⟨l9, k9, f9⟩ := bx1 HT9.out
    obtain ⟨lr9, kr9, fr9⟩ := bx1 HR9.out
    go_wp2_with fail
    refine bodyPost_ret (v := .agg #[.slice A2 ps.length c2]) (by simp [results, Try.results191, go_sem, *]) rfl ?_
    show TreeDP w0 g w _ _
    have hC9 := (Chg.refl [w.heap.size + 1] W4).setCell (p := ⟨w.heap.size + 1, 0, none⟩) (.inl (by simp)) (.slice A2 ps.length c2)
    exact ⟨A2, c2, F2, ps, rfl, HS9.out.chg hC9 (fun b hb h => by have := HF9.out b hb; rw [List.mem_singleton.1 h] at this; omega), fun b hb => by have := HF9.out b hb; omega, HL9.out, Hc9.out.chg hC9 (by simp; omega) (by simp; omega), HC9.out.trans hC9 (fun x hx => .inr (by rw [List.mem_singleton.1 hx]; omega))⟩
  | true =>
    obtain ⟨lq, kq0, kq1, kq2, fq⟩ := box3 HQ4.out
    have HT5 := Lib.hid (HT4.out.set10 (u := .slice none 0 0))
    have hs5 : Chg [b5] W4 (W4.setCell ⟨b5, 0, none⟩ (.slice none 0 0)) := (Chg.refl [b5] W4).setCell (p := ⟨b5, 0, none⟩) (.inl (by simp)) (.slice none 0 0)
    have HQ5 := Lib.hid (HQ4.out.chg hs5 (by simp; omega))
    have HR5 := Lib.hid (HR4.out.chg hs5 (by simp; omega))
    have HC5 := Lib.hid (HC4.out.trans hs5 (fun x hx => .inr (by rw [List.mem_singleton.1 hx]; omega)))
    have Hc5 := Lib.hid (Hc4.out.chg hs5 (by simpa using fun h => n5g h.symm) (by simp; omega))
    clear hs5
    go_wp2_with fail
    clear l5 k5 f5 lq kq0 kq1 kq2 fq
    go_loopw [7] (fun i wr => ∃ (k : Nat) (xs : List Int) (A : Option Addr) (c : Nat) (F : List Nat), i = .int .i64 k ∧ k ≤ q.2.1.length ∧ Hid (xs.length = k) ∧ Hid (BoxAt wr b5 #[.slice A xs.length c]) ∧ Hid (BoxAt wr w.heap.size #[.int .i64 q.1, .slice B q.2.1.length e1, .slice C q.2.2.length f1]) ∧ Hid (BoxAt wr (w.heap.size + 1) #[.slice none 0 0]) ∧ Hid (SV 3 1 sI wr (.slice A xs.length c) xs F) ∧ Hid (∀ b ∈ F, w.heap.size + 1 < b ∧ b ≠ b5 ∧ b ≠ g) ∧ Hid (Chg [g] w wr) ∧ Hid (Cur w0 wr g) ∧ b5 < wr.heap.size ∧ g < wr.heap.size) (fun i _ => q.2.1.length - (intOf i).toNat)
    case atStart => exact ⟨0, [], none, 0, [], rfl, by omega, Lib.hid rfl, HT5, HQ5, HR5, Lib.hid SV.nil, Lib.hid (by simp), HC5, Hc5, HT5.out.1, Hc5.out.lt⟩
    case round => as_aux_lemma =>
      obtain ⟨k, xs, A, c, F, rfl, hk, HL, HT, HQ, HR, HS, HF, HC, Hc, hb5r, hgr⟩ := hrel
      obtain ⟨lt, kt, ft⟩ := bx1 HT.out
      obtain ⟨lq, kq0, kq1, kq2, fq⟩ := box3 HQ.out
      by_cases hlt : k < q.2.1.length
      · have nFg : Hid (∀ b ∈ F, b ∉ [g]) := Lib.hid (fun b hb h => (HF.out b hb).2.2 (List.mem_singleton.1 h))
        have nFt : Hid (b5 ∉ F) := Lib.hid (fun h => (HF.out b5 h).2.1 rfl)
        have is : IntKind.i64.wrap ((q.2.1.length : Int) + 1) = (q.2.1.length : Int) + 1 := by rw [IntKind.wrap_i64]; omega
        have hlx : xs.length + 1 ≤ 2000000000 := by have := HL.out; omega
        go_upto_region 7 with fail
        go_region_law (first
          | (refine step_app1 (E := sI) (d := y - 1) (by rfl) _ _ _ (by rfl) tI (by rfl) (by rfl) (by rfl) (by rfl) (fun _ => ⟨rfl, rfl⟩) (by rfl) (by simp [Value.oneCell']) HS6.out hlx (by omega) ?_; intro v7 w7 F7 hS7 hC7 hF7; obtain ⟨A7, c7, rfl, _, _⟩ := hS7.form; have B7 := HT6.out.chg hC7 nFt.out; obtain ⟨l7, k7, f7⟩ := bx1 B7)
          | (rw [if_pos (by simp [Region.wanted])]; go_wp2_with (go_at_call 136; refine (l1Below_any (Hc.out.toExt (by refine x'z ?_; repeat (with_reducible (first | exact x'a _ _ | exact x'b _ | exact x'c (by assumption) | refine x'd ?_ (by assumption) | refine x'e ?_ _ | refine x'f ?_ _ | refine x'g ?_ | refine x'h ?_ ?_ _ | refine x'i ?_ _ | refine x'j ?_ | refine x'k ?_ _ | refine x'l ?_ _ _ | refine x'm ?_ | assumption | (refine x'n ?_; omega) | omega)))) (by omega) (by omega)).mono ?_; rintro e w6 ⟨y, rfl, hya, hyb, hc6, hC6⟩; have iy : IntKind.i64.wrap (y - 1) = y - 1 := (by rw [IntKind.wrap_i64]; omega); have HS6 := Lib.hid ((HS.out.toExt (by refine x'z ?_; repeat (with_reducible (first | exact x'a _ _ | exact x'b _ | exact x'c (by assumption) | refine x'd ?_ (by assumption) | refine x'e ?_ _ | refine x'f ?_ _ | refine x'g ?_ | refine x'h ?_ ?_ _ | refine x'i ?_ _ | refine x'j ?_ | refine x'k ?_ _ | refine x'l ?_ _ _ | refine x'm ?_ | assumption | (refine x'n ?_; omega) | omega)))).chg hC6 nFg.out); have HT6 := Lib.hid ((HT.out.toExt (by refine x'z ?_; repeat (with_reducible (first | exact x'a _ _ | exact x'b _ | exact x'c (by assumption) | refine x'd ?_ (by assumption) | refine x'e ?_ _ | refine x'f ?_ _ | refine x'g ?_ | refine x'h ?_ ?_ _ | refine x'i ?_ _ | refine x'j ?_ | refine x'k ?_ _ | refine x'l ?_ _ _ | refine x'm ?_ | assumption | (refine x'n ?_; omega) | omega)))).chg hC6 (by simpa using n5g)); have HQ6 := Lib.hid ((HQ.out.toExt (by refine x'z ?_; repeat (with_reducible (first | exact x'a _ _ | exact x'b _ | exact x'c (by assumption) | refine x'd ?_ (by assumption) | refine x'e ?_ _ | refine x'f ?_ _ | refine x'g ?_ | refine x'h ?_ ?_ _ | refine x'i ?_ _ | refine x'j ?_ | refine x'k ?_ _ | refine x'l ?_ _ _ | refine x'm ?_ | assumption | (refine x'n ?_; omega) | omega)))).chg hC6 (by simp; omega)); have HR6 := Lib.hid ((HR.out.toExt (by refine x'z ?_; repeat (with_reducible (first | exact x'a _ _ | exact x'b _ | exact x'c (by assumption) | refine x'd ?_ (by assumption) | refine x'e ?_ _ | refine x'f ?_ _ | refine x'g ?_ | refine x'h ?_ ?_ _ | refine x'i ?_ _ | refine x'j ?_ | refine x'k ?_ _ | refine x'l ?_ _ _ | refine x'm ?_ | assumption | (refine x'n ?_; omega) | omega)))).chg hC6 (by simp; omega)); have HC6 := Lib.hid (show Chg [g] w w6 from (HC.out.trans0 (by refine x'z ?_; repeat (with_reducible (first | exact x'a _ _ | exact x'b _ | exact x'c (by assumption) | refine x'd ?_ (by assumption) | refine x'e ?_ _ | refine x'f ?_ _ | refine x'g ?_ | refine x'h ?_ ?_ _ | refine x'i ?_ _ | refine x'j ?_ | refine x'k ?_ _ | refine x'l ?_ _ _ | refine x'm ?_ | assumption | (refine x'n ?_; omega) | omega)))).trans hC6 (fun x hx => .inl hx)); have Hc6 := Lib.hid hc6; have hz6 := hC6.size; obtain ⟨l6, k6, f6⟩ := bx1 HT6.out; clear hc6 hC6)))
        all_goals
          have hl7 : (xs ++ [y - 1]).length = xs.length + 1 := by simp
          (try rw [hl7] at hS7)
          have hz67 := hC7.size
          have hz60 : wr.heap.size ≤ w6.heap.size := by first | exact hz6 | (simp at hz6; exact hz6) | (simp at hz6; omega)
          have hF7n : ∀ b ∈ F7, w.heap.size + 1 < b ∧ b ≠ b5 ∧ b ≠ g := fun b hb => by
            rcases hF7 b hb with h | h
            · exact HF.out b h
            · first | omega | (simp at h; omega)
          have hsC := (Chg.refl [b5] w7).setCell (p := ⟨b5, 0, none⟩) (.inl (by simp)) (.slice A7 (xs.length + 1) c7)
          have HT9 := Lib.hid (show BoxAt (w7.setCell ⟨b5, 0, none⟩ (.slice A7 (xs.length + 1) c7)) b5 #[.slice A7 (xs ++ [y - 1]).length c7] by rw [hl7]; exact B7.set10)
          have HQ9 := Lib.hid ((HQ6.out.chg hC7 (fun h => by have := HF.out _ h; omega)).chg hsC (by simp; omega))
          have HR9 := Lib.hid ((HR6.out.chg hC7 (fun h => by have := HF.out _ h; omega)).chg hsC (by simp; omega))
          have HS9 := Lib.hid (show SV 3 1 sI (w7.setCell ⟨b5, 0, none⟩ (.slice A7 (xs.length + 1) c7)) (.slice A7 (xs ++ [y - 1]).length c7) (xs ++ [y - 1]) F7 by rw [hl7]; exact hS7.chg hsC (fun b hb h => (hF7n b hb).2.1 (List.mem_singleton.1 h)))
          have HC9 := Lib.hid ((HC6.out.trans hC7 (fun x hx => .inr (by have := HF.out x hx; omega))).trans hsC (fun x hx => .inr (by rw [List.mem_singleton.1 hx]; omega)))
          have Hc9 := Lib.hid ((Hc6.out.chg hC7 (fun h => nFg.out g h (by simp)) (fun b hb => by have := HF.out b hb; omega)).chg hsC (by simpa using fun h => n5g h.symm) (by simp; omega))
          clear hsC hS7 hC7 hF7 B7
          go_wp2_with fail
          exact ⟨⟨k + 1, xs ++ [y - 1], A7, c7, F7, by go_num, by omega, Lib.hid (by rw [hl7, HL.out]), HT9, HQ9, HR9, HS9, Lib.hid hF7n, HC9, Hc9, HT9.out.1, Hc9.out.lt⟩, by simp [intOf]; omega⟩
      · have HT9 := HT
        have HR9 := HR
        have HS9 := HS
        have HF9 := Lib.hid (show ∀ b ∈ F, w.heap.size + 1 < b from fun b hb => (HF.out b hb).1)
        have HL9 := Lib.hid (show xs.length ≤ 10 by rw [HL.out]; omega)
        have HC9 := HC
        have Hc9 := Hc
        obtain ⟨l9, k9, f9⟩ := bx1 HT9.out
        obtain ⟨lr9, kr9, fr9⟩ := bx1 HR9.out
        go_wp2_with fail
        refine bodyPost_ret (v := .agg #[.slice A xs.length c]) (by simp [results, Try.results191, go_sem, *]) rfl ?_
        show TreeDP w0 g w _ _
        have hC9 := (Chg.refl [w.heap.size + 1] wr).setCell (p := ⟨w.heap.size + 1, 0, none⟩) (.inl (by simp)) (.slice A xs.length c)
        exact ⟨A, c, F, xs, rfl, HS9.out.chg hC9 (fun b hb h => by have := HF9.out b hb; rw [List.mem_singleton.1 h] at this; omega), fun b hb => by have := HF9.out b hb; omega, HL9.out, Hc9.out.chg hC9 (by simp; omega) (by simp; omega), HC9.out.trans hC9 (fun x hx => .inr (by rw [List.mem_singleton.1 hx]; omega))⟩
end Go.Proofs.Ytfigcfajkilhiaa
