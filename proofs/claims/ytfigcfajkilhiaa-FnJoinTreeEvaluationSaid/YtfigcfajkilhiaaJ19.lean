/- Contracts of functions that the statement reaches. -/
import Derived.Deep.RegionLaw
import Derived.Deep.DeepCutAuto
import Derived.Deep.CutBlock
import Derived.Test.YtfigcfajkilhiaaJ13
import Derived.Test.YtfigcfajkilhiaaJ14
import Derived.Test.YtfigcfajkilhiaaJ15
import Derived.Test.YtfigcfajkilhiaaJ18
namespace Go.Proofs.Ytfigcfajkilhiaa
open Go.RowKit
def TbD (t : Td) : Prop := t.1.size ≤ 5 ∧ BRel t.2 ∧ FewR t.2
structure DrD (d : Dbd) : Prop where
  n : d.length ≤ 6
  t : ∀ t ∈ d, TbD t
theorem anyR_few {r : Rd} (h : AnyR r) : BRel r ∧ FewR r := ⟨by
  refine ⟨h.a, ?_, ?_⟩
  · have := h.n; omega
  · have h1 := h.n
    have h2 := sum_len (m := 10) h.l
    omega, by have := h.n; omega, .inr h.n⟩
theorem relD_few {r : Rd} {a m : Nat} {val : Int} (h : RelD r a m val) (hm : m ≤ 9) (hv : val ≤ 6) : BRel r ∧ FewR r := by
  have hn := h.n
  have hz := rowsB_sz h.ok
  refine ⟨⟨⟨?_, ?_⟩, ?_, ?_⟩, by omega, .inl fun row hr v hv' => ?_⟩
  · have := (rowsB_iff.1 h.ok).1; omega
  · have := (rowsB_iff.1 h.ok).2.1; omega
  · omega
  · have h2 := sum_len (m := 10) (l := r.2) fun x hx => by have := hz.rl x hx; omega
    omega
  · have := h.v row hr v hv'; omega
theorem DrD.w {d : Dbd} (h : DrD d) : WDb d := by
  refine ⟨by have := h.n; omega, fun x hx => ?_, fun x hx => ?_, fun x hx => ?_⟩
  · have := (h.t x hx).1; omega
  · have := (h.t x hx).2.1.2.1; omega
  · exact (h.t x hx).2.1.2.big
theorem DrD.few {d : Dbd} (h : DrD d) : FewD d := fun t ht => (h.t t ht).2.2
def DbDP (w0 : World) (g : Nat) (w : World) (e : Ending) (w' : World) : Prop := ∃ v F d, e = .returned (.agg #[v]) ∧ SV 108 3 sTb w' v d F ∧ F.Nodup ∧ (∀ b ∈ F, w.heap.size ≤ b) ∧ d.length = 5 ∧ DrD d ∧ Cur w0 w' g ∧ Chg [g] w w'
set_option maxRecDepth 100000 in
set_option maxHeartbeats 40000000 in
theorem l6Db_any {g : Nat} {w0 w : World} (hc : Cur w0 w g) : Calls Try.prog 142 #[.pointer (some ⟨g, 0, none⟩)] w (DbDP w0 g w) := by
  have hgw := hc.lt
  have hw0w := size_of_ext hc.2.1
  have Hc0 := Lib.hid hc
  clear hc
  go_enter Try.func142, Try.ntmps142
  go_upto_region 1 with fail
  refine wp_name ?_
  intro W hW
  have xW : ∃ y, W = ext w y := by rw [hW.out]; exact (by refine x'z ?_; repeat (with_reducible (first | exact x'a _ _ | exact x'b _ | exact x'c (by assumption) | refine x'd ?_ (by assumption) | refine x'e ?_ _ | refine x'f ?_ _ | refine x'g ?_ | refine x'h ?_ ?_ _ | refine x'i ?_ _ | refine x'j ?_ | refine x'k ?_ _ | refine x'l ?_ _ _ | refine x'm ?_ | assumption | (refine x'n ?_; omega) | omega)))
  have BW0 : BoxAt W (w.heap.size) #[.slice none 0 0] := by rw [hW.out]; refine ⟨?_, fun j => ?_, fun j => ?_⟩ <;> go_simp
  obtain ⟨lW0, bW0, fW0⟩ := BW0
  have cW0_0 : W.cell? ⟨w.heap.size, 0, none⟩ = some (.slice none 0 0) := bW0 0
  clear hW
  have HR := Lib.hid (show BoxAt W w.heap.size #[.slice none 0 0] from ⟨lW0, bW0, fW0⟩)
  clear bW0 fW0 cW0_0
  have hzW := size_of_ext xW
  go_wp2_with fail
  refine (l1PickInt_any (Hc0.out.toExt (trans_ext xW (alloc_ext _ _))) (m := 4) (by omega) (by omega) (BoxAt.new _ _ _) (by intro j hj; rcases j with _ | _ | _ | _ | j <;> first | exact ⟨_, rfl⟩ | omega) (by omega)).mono ?_
  rintro e w1 ⟨val, j, rfl, hj, hz, hc1, hC1⟩
  have hval : 2 ≤ val ∧ val ≤ 6 := by
    rcases j with _ | _ | _ | _ | j <;> first | omega | (simp at hz; omega)
  obtain ⟨hval1, hval2⟩ := hval
  have HC1 := Lib.hid (((Chg.ofExt (F := [g]) xW).alloc (.cells #[.int .i64 2, .int .i64 3, .int .i64 4, .int .i64 6] 3)).trans hC1 (fun x hx => .inl hx))
  have HR1 := Lib.hid ((HR.out.alloc (.cells #[.int .i64 2, .int .i64 3, .int .i64 4, .int .i64 6] 3)).chg hC1 (by simp; omega))
  have hz1 := hC1.size
  rw [World.size_alloc] at hz1
  have Hc1 := Lib.hid hc1
  clear hz hj hC1 hc1
  go_upto_region 3 with fail
  refine wp_name ?_
  intro W3 hW3
  have x3 : ∃ y, W3 = ext w1 y := by rw [hW3.out]; exact (by refine x'z ?_; repeat (with_reducible (first | exact x'a _ _ | exact x'b _ | exact x'c (by assumption) | refine x'd ?_ (by assumption) | refine x'e ?_ _ | refine x'f ?_ _ | refine x'g ?_ | refine x'h ?_ ?_ _ | refine x'i ?_ _ | refine x'j ?_ | refine x'k ?_ _ | refine x'l ?_ _ _ | refine x'm ?_ | assumption | (refine x'n ?_; omega) | omega)))
  have B3 : BoxAt W3 w1.heap.size #[.slice none 0 0] := by rw [hW3.out]; exact (by repeat (with_reducible (first | assumption | exact BoxAt.new _ _ _ | apply BoxAt.set10 | apply BoxAt.set2 | refine BoxAt.set2' ?_ (by omega) | apply BoxAt.setP0 | apply BoxAt.setP1 | refine BoxAt.setO ?_ (by omega) | refine BoxAt.alloc ?_ _ | refine BoxAt.drew ?_ | refine BoxAt.toExt ?_ (by assumption))))
  have HR3 := Lib.hid (HR1.out.toExt x3)
  have HC3 := Lib.hid (HC1.out.trans0 x3)
  have Hc3 := Lib.hid (Hc1.out.toExt x3)
  have hz3 := size_of_ext x3
  obtain ⟨b4, q4⟩ : ∃ b, w1.heap.size = b := ⟨_, rfl⟩
  rw [q4] at B3 hz1 ⊢
  have hb4 : b4 < W3.heap.size := B3.1
  have n4g : b4 ≠ g := by omega
  have HB3 := Lib.hid B3
  clear hW3 B3 q4
  go_wp2_with fail
  go_loopw [15] (fun i wr => ∃ (k : Nat) (A : Option Addr) (c : Nat) (d : Dbd) (F : List Nat), i = .int .i64 k ∧ k ≤ 5 ∧ Hid (d.length = k) ∧ BoxAt wr b4 #[.slice A d.length c] ∧ SV 108 3 sTb wr (.slice A d.length c) d F ∧ Hid F.Nodup ∧ Hid (∀ b ∈ F, W3.heap.size < b) ∧ Hid (∀ t ∈ d, TbD t) ∧ Cur w0 wr g ∧ Chg [g, b4] (W3.alloc (.cells #[.string ⟨#[114]⟩, .string ⟨#[115]⟩, .string ⟨#[116]⟩, .string ⟨#[117]⟩, .string ⟨#[118]⟩] 9)) wr) (fun i _ => 5 - (intOf i).toNat)
  case atStart => exact ⟨0, none, 0, [], [], rfl, by omega, Lib.hid rfl, HB3.out.alloc _, SV.nil, Lib.hid (by simp), Lib.hid (by simp), Lib.hid (by simp), Hc3.out.toExt (alloc_ext _ _), Chg.refl _ _⟩
  case round => as_aux_lemma =>
    obtain ⟨k, A, c, d, F, rfl, hk, HL, hB, hS, HN, HF, HT, hcr, hC⟩ := hrel
    have HB := Lib.hid hB
    have HS := Lib.hid hS
    have HC := Lib.hid hC
    have Hcr := Lib.hid hcr
    have hzr := hC.size
    rw [World.size_alloc] at hzr
    have hdl : d.length ≤ 5 := by rw [HL.out]; exact hk
    clear hB hS hC hcr
    by_cases hlt : k < 5
    · obtain ⟨s, hs, hs1⟩ : ∃ s, wr.cell? ⟨W3.heap.size, k, none⟩ = some (.string s) ∧ s.size ≤ 5 := by
        have hb := (BoxAt.new W3 #[.string ⟨#[114]⟩, .string ⟨#[115]⟩, .string ⟨#[116]⟩, .string ⟨#[117]⟩, .string ⟨#[118]⟩] 9).chg HC.out (by simp; omega)
        rw [hb.2.1 k]
        rcases k with _ | _ | _ | _ | _ | k
        · exact ⟨_, rfl, by decide⟩
        · exact ⟨_, rfl, by decide⟩
        · exact ⟨_, rfl, by decide⟩
        · exact ⟨_, rfl, by decide⟩
        · exact ⟨_, rfl, by decide⟩
        · omega
      have hsl : W3.heap.size < wr.heap.size := by omega
      obtain ⟨tt, hbb⟩ : ∃ tt, (s.toList == [(118 : UInt8)]) = tt := ⟨_, rfl⟩
      have HBB := Lib.hid hbb
      clear hbb
      obtain ⟨ar, har, ha5⟩ : ∃ ar : Nat, (if tt = true then 3 else 2) = ar ∧ ar ≤ 5 := ⟨_, rfl, by split <;> omega⟩
      have HAR := Lib.hid har
      clear har
      go_upto_region 7 with fail
      go_cut [20] (fun v wx => v = .bool tt ∧ wx = wr)
      case first =>
        go_wp2_with fail
        go_meet
        exact ⟨by rw [← HBB.out], rfl⟩
      obtain ⟨rfl, eW⟩ := hcut
      have eW := eW.symm
      subst eW
      go_upto_if 20 with fail
      go_cut [7] (fun v wx => v = .int .i64 (ar : Int) ∧ wx = wr)
      case first =>
        cases tt with
        | true =>
          have HE := Lib.hid (show ar = 3 by rw [← HAR.out]; rfl)
          go_wp2_with fail
          go_meet
          exact ⟨by rw [HE.out]; rfl, rfl⟩
        | false =>
          have HE := Lib.hid (show ar = 2 by rw [← HAR.out]; rfl)
          go_wp2_with fail
          go_meet
          exact ⟨by rw [HE.out]; rfl, rfl⟩
      obtain ⟨rfl, eW⟩ := hcut
      have eW := eW.symm
      subst eW
      go_wp2_with fail
      refine (l1PickInt_any (Hcr.out.toExt (by refine x'z ?_; repeat (with_reducible (first | exact x'a _ _ | exact x'b _ | exact x'c (by assumption) | refine x'd ?_ (by assumption) | refine x'e ?_ _ | refine x'f ?_ _ | refine x'g ?_ | refine x'h ?_ ?_ _ | refine x'i ?_ _ | refine x'j ?_ | refine x'k ?_ _ | refine x'l ?_ _ _ | refine x'm ?_ | assumption | (refine x'n ?_; omega) | omega)))) (m := 3) (by omega) (by omega) (BoxAt.new _ _ _) (by intro j hj; rcases j with _ | _ | _ | j <;> first | exact ⟨_, rfl⟩ | omega) (by omega)).mono ?_
      rintro e w5 ⟨z, j, rfl, hj, hz, hc5, hC5⟩
      obtain ⟨mm, rfl, hmm⟩ : ∃ mm : Nat, z = mm ∧ mm ≤ 9 := ⟨z.toNat, by rcases j with _ | _ | _ | j <;> first | omega | (simp at hz; omega), by rcases j with _ | _ | _ | j <;> first | omega | (simp at hz; omega)⟩
      have HC5 := Lib.hid ((HC.out.alloc (.cells #[.int .i64 3, .int .i64 6, .int .i64 9] 3)).trans hC5 (fun x hx => .inl (by rw [List.mem_singleton.1 hx]; simp)))
      have HB5 := Lib.hid ((HB.out.alloc (.cells #[.int .i64 3, .int .i64 6, .int .i64 9] 3)).chg hC5 (by simpa using n4g))
      have HS5 := Lib.hid ((HS.out.toExt (alloc_ext wr (.cells #[.int .i64 3, .int .i64 6, .int .i64 9] 3))).chg hC5 (fun b hb h => by have := HF.out b hb; rw [List.mem_singleton.1 h] at this; omega))
      have Hc5 := Lib.hid hc5
      have hz5 := HC5.out.size
      rw [World.size_alloc] at hz5
      clear hz hj hC5 hc5
      go_wp2_with fail
      refine (l5Rel_any (a := ar) Hc5.out ha5 (by omega) (by omega) (by omega)).mono ?_
      rintro e w6 ⟨u0, u1, F6, r, rfl, hS6, hN6, hF6, hD6, hc6, hC6⟩
      obtain ⟨A6, c6, rfl, rfl, _⟩ := sRel_form hS6
      have HC6 := Lib.hid (HC5.out.trans hC6 (fun x hx => .inl (by rw [List.mem_singleton.1 hx]; simp)))
      have HB6 := Lib.hid (HB5.out.chg hC6 (by simpa using n4g))
      have HO6 := Lib.hid (HS5.out.chg hC6 (fun b hb h => by have := HF.out b hb; rw [List.mem_singleton.1 h] at this; omega))
      have HS6 := Lib.hid hS6
      have HN6 := Lib.hid (nodup_more HN.out hN6 HS5.out.lt hF6)
      have HF6 := Lib.hid (show ∀ b ∈ F6, W3.heap.size < b from fun b hb => by have := hF6 b hb; omega)
      have HD6 := Lib.hid (relD_few hD6 hmm (by omega))
      have Hc6 := Lib.hid hc6
      have hz6 := HC6.out.size
      rw [World.size_alloc] at hz6
      clear hS6 hN6 hF6 hD6 hC6 hc6
      go_upto_region 10 with fail
      refine wp_name ?_
      intro W7 hW7
      have x7 : ∃ y, W7 = ext w6 y := by rw [hW7.out]; exact (by refine x'z ?_; repeat (with_reducible (first | exact x'a _ _ | exact x'b _ | exact x'c (by assumption) | refine x'd ?_ (by assumption) | refine x'e ?_ _ | refine x'f ?_ _ | refine x'g ?_ | refine x'h ?_ ?_ _ | refine x'i ?_ _ | refine x'j ?_ | refine x'k ?_ _ | refine x'l ?_ _ _ | refine x'm ?_ | assumption | (refine x'n ?_; omega) | omega)))
      have T7 : BoxAt W7 w6.heap.size #[.int .i64 r.1, .slice A6 r.2.length c6] := by rw [hW7.out]; exact (by repeat (with_reducible (first | assumption | exact BoxAt.new _ _ _ | apply BoxAt.set2 | refine BoxAt.set2' ?_ (by omega) | apply BoxAt.setP0 | apply BoxAt.setP1 | refine BoxAt.setO ?_ (by omega) | refine BoxAt.alloc ?_ _ | refine BoxAt.drew ?_ | refine BoxAt.toExt ?_ (by assumption))))
      have HS7 := Lib.hid (HO6.out.toExt x7)
      have HR7 : Hid (sRel W7 [.int .i64 r.1, .slice A6 r.2.length c6] r F6) := Lib.hid (OD.toExt HS6.out x7)
      have HB7 := Lib.hid (HB6.out.toExt x7)
      have HC7 := Lib.hid (HC6.out.trans0 x7)
      have Hc7 := Lib.hid (Hc6.out.toExt x7)
      have hz7 := HC7.out.size
      rw [World.size_alloc] at hz7
      obtain ⟨l7, t70, t71, f7⟩ := bx2 T7
      obtain ⟨lb7, kb7, fb7⟩ := bx1 HB7.out
      clear hW7 T7
      go_wp2_with (at_builtin; refine wpList_appN (E := sTb) (d := (s, r)) (G := F6) rfl _ _ _ rfl tTb rfl rfl rfl (by simp) (sTb_mk HR7.out) rfl (by simp [Value.oneCell']) HS7.out HN6.out (by omega) (by omega) ?_; intro v8 w8 F8 hS8 hC8 hN8 hF8; obtain ⟨A8, c8, rfl, _, _⟩ := hS8.form; have B8 := HB7.out.chg hC8 (fun h => by have := HF.out _ h; omega); obtain ⟨l8, k8, f8⟩ := bx1 B8)
      have hl8 : (d ++ [(s, r)]).length = d.length + 1 := by simp
      have hF8n : ∀ b ∈ F8, W3.heap.size < b := fun b hb => by
        rcases hF8 b hb with h | h | h
        · exact HF.out b h
        · exact HF6.out b h
        · omega
      (try rw [hl8] at hS8)
      have hsC := (Chg.refl [b4] w8).setCell (p := ⟨b4, 0, none⟩) (.inl (by simp)) (.slice A8 (d.length + 1) c8)
      have hz8 := hC8.size
      exact ⟨⟨k + 1, A8, c8, d ++ [(s, r)], F8, by go_num, by omega, Lib.hid (by rw [hl8, HL.out]), by rw [hl8]; exact B8.set10, by rw [hl8]; exact hS8.chg hsC (fun b hb h => by have := hF8n b hb; rw [List.mem_singleton.1 h] at this; omega), Lib.hid hN8, Lib.hid hF8n, Lib.hid (fun t ht => by
        rcases List.mem_append.1 ht with h | h
        · exact HT.out t h
        · rw [List.mem_singleton.1 h]; exact ⟨by dsimp only; omega, HD6.out⟩), (Hc7.out.chg hC8 (fun h => by have := HF.out _ h; omega) (fun b hb => by have := HF.out b hb; omega)).chg hsC (by simpa using fun h => n4g h.symm) (by simp; omega), (HC7.out.trans hC8 (fun x hx => .inr (by rw [World.size_alloc]; exact HF.out x hx))).trans hsC (fun x hx => .inl (by rw [List.mem_singleton.1 hx]; simp))⟩, by simp [intOf]; omega⟩
    · have HL5 := Lib.hid (show d.length = 5 by rw [HL.out]; omega)
      have HD := Lib.hid (DrD.mk (by omega) HT.out)
      have HCW := Lib.hid (show Chg [g] w wr from ((HC3.out.alloc (.cells #[.string ⟨#[114]⟩, .string ⟨#[115]⟩, .string ⟨#[116]⟩, .string ⟨#[117]⟩, .string ⟨#[118]⟩] 9)).trans HC.out (fun x hx => by
        rcases List.mem_cons.1 hx with h | h
        · exact .inl (by rw [h]; simp)
        · exact .inr (by rw [List.mem_singleton.1 h]; omega))))
      have HRr := Lib.hid ((HR3.out.alloc (.cells #[.string ⟨#[114]⟩, .string ⟨#[115]⟩, .string ⟨#[116]⟩, .string ⟨#[117]⟩, .string ⟨#[118]⟩] 9)).chg HC.out (by simp; omega))
      go_wp2_with fail
      refine (l1Once_any Hcr.out (by omega) (by omega)).mono ?_
      rintro e w5 ⟨t, rfl, hc5, hC5⟩
      have HS5 := Lib.hid (HS.out.chg hC5 (fun b hb h => by have := HF.out b hb; rw [List.mem_singleton.1 h] at this; omega))
      have HB5 := Lib.hid (HB.out.chg hC5 (by simpa using n4g))
      have HR5 := Lib.hid (HRr.out.chg hC5 (by simp; omega))
      have HC5 := Lib.hid (HCW.out.trans hC5 (fun x hx => .inl hx))
      have Hc5 := Lib.hid hc5
      have hz5 := hC5.size
      clear hc5 hC5
      cases t with
      | false =>
        have HB9 := HB5
        have HR9 := HR5
        have HS9 := HS5
        have HF9 := Lib.hid (show ∀ b ∈ F, W3.heap.size < b from HF.out)
        have HN9 := HN
        have HL9 := HL5
        have HD9 := HD
        have Hc9 := Hc5
        have HC9 := HC5
        go_upto_region 14 with fail
        obtain ⟨lf1, kf1, ff1⟩ := bx1 HB9.out
        obtain ⟨lf2, kf2, ff2⟩ := bx1 HR9.out
        go_wp2_with fail
        refine bodyPost_ret (v := .agg #[.slice A d.length c]) (by simp [results, Try.results142, go_sem, *]) rfl ?_
        show DbDP w0 g w _ _
        have hC9 := (Chg.refl [w.heap.size] w5).setCell (p := ⟨w.heap.size, 0, none⟩) (.inl (by simp)) (.slice A d.length c)
        exact ⟨_, F, d, rfl, HS9.out.chg hC9 (fun b hb h => by have := HF9.out b hb; rw [List.mem_singleton.1 h] at this; omega), HN9.out, fun b hb => by have := HF9.out b hb; omega, HL9.out, HD9.out, Hc9.out.chg hC9 (by simp; omega) (by simp; omega), HC9.out.trans hC9 (fun x hx => .inr (by rw [List.mem_singleton.1 hx]; omega))⟩
      | true =>
        obtain ⟨g2, cap2, hA, hg2F, _, _⟩ := HS5.out.block (by intro e; have := HL5.out; rw [e] at this; simp at this)
        injection hA with hA _ hcp
        subst hA hcp
        have hg2 := HF.out g2 hg2F
        have ng2 : g2 ≠ g := by omega
        have n24 : b4 ≠ g2 := by omega
        have hd5 : d.length * 3 = 15 := by rw [HL5.out]
        have hd50 : (5 : Int) ≤ (d.length : Int) := by have := HL5.out; omega
        obtain ⟨l5, k5, f5⟩ := bx1 HB5.out
        go_upto_region 13 with fail
        go_region_law (first
          | (rw [if_pos (by simp [Region.wanted])]; go_wp2_with (go_at_call 136; refine (l1Below_any (Hc5.out.toExt (by refine x'z ?_; repeat (with_reducible (first | exact x'a _ _ | exact x'b _ | exact x'c (by assumption) | refine x'd ?_ (by assumption) | refine x'e ?_ _ | refine x'f ?_ _ | refine x'g ?_ | refine x'h ?_ ?_ _ | refine x'i ?_ _ | refine x'j ?_ | refine x'k ?_ _ | refine x'l ?_ _ _ | refine x'm ?_ | assumption | (refine x'n ?_; omega) | omega)))) (by omega) (by omega)).mono ?_; rintro e w6 ⟨x, rfl, hx0, hx1, hc6, hC6⟩; obtain ⟨k0, rfl⟩ : ∃ k : Nat, x = k := ⟨x.toNat, by omega⟩; have hk0 : k0 < d.length := (by omega); have hS6 := (HS5.out.toExt (by refine x'z ?_; repeat (with_reducible (first | exact x'a _ _ | exact x'b _ | exact x'c (by assumption) | refine x'd ?_ (by assumption) | refine x'e ?_ _ | refine x'f ?_ _ | refine x'g ?_ | refine x'h ?_ ?_ _ | refine x'i ?_ _ | refine x'j ?_ | refine x'k ?_ _ | refine x'l ?_ _ _ | refine x'm ?_ | assumption | (refine x'n ?_; omega) | omega)))).chg hC6 (fun b hb h => by have := HF.out b hb; rw [List.mem_singleton.1 h] at this; omega); obtain ⟨⟨u1, i3⟩, i4, i5⟩ := hS6.cell rfl (j := k0 * 3 + 2) (by omega); have HS6 := Lib.hid hS6; have HC6 := Lib.hid (show Chg [g] w w6 from (HC5.out.trans0 (by refine x'z ?_; repeat (with_reducible (first | exact x'a _ _ | exact x'b _ | exact x'c (by assumption) | refine x'd ?_ (by assumption) | refine x'e ?_ _ | refine x'f ?_ _ | refine x'g ?_ | refine x'h ?_ ?_ _ | refine x'i ?_ _ | refine x'j ?_ | refine x'k ?_ _ | refine x'l ?_ _ _ | refine x'm ?_ | assumption | (refine x'n ?_; omega) | omega)))).trans hC6 (fun x hx => .inl hx)); have Hc6 := Lib.hid hc6; have HB6 := Lib.hid ((HB5.out.toExt (by refine x'z ?_; repeat (with_reducible (first | exact x'a _ _ | exact x'b _ | exact x'c (by assumption) | refine x'd ?_ (by assumption) | refine x'e ?_ _ | refine x'f ?_ _ | refine x'g ?_ | refine x'h ?_ ?_ _ | refine x'i ?_ _ | refine x'j ?_ | refine x'k ?_ _ | refine x'l ?_ _ _ | refine x'm ?_ | assumption | (refine x'n ?_; omega) | omega)))).chg hC6 (by simpa using n4g)); have HR6 := Lib.hid ((HR5.out.toExt (by refine x'z ?_; repeat (with_reducible (first | exact x'a _ _ | exact x'b _ | exact x'c (by assumption) | refine x'd ?_ (by assumption) | refine x'e ?_ _ | refine x'f ?_ _ | refine x'g ?_ | refine x'h ?_ ?_ _ | refine x'i ?_ _ | refine x'j ?_ | refine x'k ?_ _ | refine x'l ?_ _ _ | refine x'm ?_ | assumption | (refine x'n ?_; omega) | omega)))).chg hC6 (by simp; omega)); have hz6 := hC6.size; obtain ⟨l6, k6, f6⟩ := bx1 HB6.out; clear hc6 hC6 hS6)))
        all_goals
          have hsC := (Chg.refl [g2] w6).setCell (p := ⟨g2, k0 * 3 + 2, none⟩) (.inl (by simp)) (.slice none 0 0)
          obtain ⟨F9, hS9, hN9, hF9⟩ := HS6.out.setG (G := []) (by simpa using HN.out) hk0 ⟨_, _, rfl⟩ (j := 2) (u := .slice none 0 0) (d' := (d[k0].1, d[k0].2.1, [])) (by omega) (fun c Fk hcl hE _ => by
            obtain ⟨A, n, rfl⟩ := sTb_list hE
            exact sTb_mk (F := []) (sRel_mk (F := []) ⟨_, rfl, SV.nil⟩))
          have HB9 := Lib.hid (HB6.out.chg hsC (by simpa using n24))
          have HR9 := Lib.hid (HR6.out.chg hsC (by simp; omega))
          have HS9 := Lib.hid hS9
          have HF9 := Lib.hid (show ∀ b ∈ F9, W3.heap.size < b from fun b hb => by
            rcases hF9 b hb with h | h
            · exact HF.out b h
            · simp at h)
          have HN9 := Lib.hid hN9
          have HL9 := Lib.hid (show (d.set k0 (d[k0].1, d[k0].2.1, [])).length = 5 by rw [List.length_set]; exact HL5.out)
          have HD9 : Hid (DrD (d.set k0 (d[k0].1, d[k0].2.1, []))) := Lib.hid ⟨by rw [List.length_set]; exact HD.out.n, fun t ht => by
            rcases List.mem_or_eq_of_mem_set ht with h | h
            · exact HD.out.t t h
            · have := HD.out.t _ (List.getElem_mem hk0)
              rw [h]
              exact ⟨this.1, ⟨this.2.1.1, by simp, by simp⟩, by simp, .inr (by simp)⟩⟩
          have Hc9 := Lib.hid (Hc6.out.chg hsC (by simpa using fun h => ng2 h.symm) (by simp; omega))
          have HC9 := Lib.hid (HC6.out.trans hsC (fun x hx => .inr (by rw [List.mem_singleton.1 hx]; omega)))
          clear hS9 hN9 hF9 hsC
          go_upto_region 14 with fail
          refine wp_name ?_
          intro WX hWX
          rw [← hWX.out] at HB9 HR9 HS9 Hc9 HC9
          clear hWX l6 k6 f6
          obtain ⟨lf1, kf1, ff1⟩ := bx1 HB9.out
          obtain ⟨lf2, kf2, ff2⟩ := bx1 HR9.out
          go_wp2_with fail
          refine bodyPost_ret (v := .agg #[.slice (some ⟨g2, 0, none⟩) d.length c]) (by simp [results, Try.results142, go_sem, *]) rfl ?_
          show DbDP w0 g w _ _
          have hC9 := (Chg.refl [w.heap.size] WX).setCell (p := ⟨w.heap.size, 0, none⟩) (.inl (by simp)) (.slice (some ⟨g2, 0, none⟩) d.length c)
          exact ⟨_, F9, (d.set k0 (d[k0].1, d[k0].2.1, [])), rfl, HS9.out.chg hC9 (fun b hb h => by have := HF9.out b hb; rw [List.mem_singleton.1 h] at this; omega), HN9.out, fun b hb => by have := HF9.out b hb; omega, HL9.out, HD9.out, Hc9.out.chg hC9 (by simp; omega) (by simp; omega), HC9.out.trans hC9 (fun x hx => .inr (by rw [List.mem_singleton.1 hx]; omega))⟩
end Go.Proofs.Ytfigcfajkilhiaa
