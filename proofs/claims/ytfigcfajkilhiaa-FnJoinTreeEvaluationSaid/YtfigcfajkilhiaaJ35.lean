/- Contracts of functions that the statement reaches. -/
import Derived.Deep.RegionHeld3
import Derived.Test.YtfigcfajkilhiaaJ26
import Derived.Test.YtfigcfajkilhiaaJ03
import Derived.Test.YtfigcfajkilhiaaJ31
import Derived.Test.YtfigcfajkilhiaaJ34
namespace Go.Proofs.Ytfigcfajkilhiaa
open Go.RowKit
def DfrP (w : World) (e : Ending) (w' : World) : Prop := ∃ A c d B b C c' q D f ps, e = .returned (.tuple #[.agg #[.slice A d.length c], .agg #[.int .i64 q.1, .slice B q.2.1.length b, .slice C q.2.2.length c'], .agg #[.slice D ps.length f]]) ∧ (∀ GG w2, (∀ x ∈ GG, x < w.heap.size) → Chg GG w' w2 → RV 3 vTb w2 A d ∧ vQ w2 [.int .i64 q.1, .slice B q.2.1.length b, .slice C q.2.2.length c'] q ∧ RI w2 D ps) ∧ DrD d ∧ QaD q ∧ ps.length ≤ 10 ∧ ∃ y, w' = ext w y
theorem heldC3 {W w' : World} {g r t s : Nat} (h : Chg (g :: [r, t, s]) W w') : ∀ b o : Nat, b < W.heap.size → b ≠ g → b ≠ r → b ≠ t → b ≠ s → w'.cell? ⟨b, o, none⟩ = W.cell? ⟨b, o, none⟩ := fun b o h1 h2 h3 h4 h5 => h.cell (by simp; exact ⟨h2, h3, h4, h5⟩) h1
def CutF (w w2 : World) (g : Nat) (A2 : Option Addr) (d : Dbd) (c2 : Nat) (B2 C2 : Option Addr) (q : Qd) (b2 c3 : Nat) (wx : World) : Prop := ∃ D f ps F, BoxAt wx w.heap.size #[.slice A2 d.length c2] ∧ BoxAt wx (w.heap.size + 1) #[.int .i64 q.1, .slice B2 q.2.1.length b2, .slice C2 q.2.2.length c3] ∧ BoxAt wx (w.heap.size + 1 + 1) #[.slice D ps.length f] ∧ SV 3 1 sI wx (.slice D ps.length f) ps F ∧ (∀ b ∈ F, w.heap.size + 1 + 1 < b) ∧ ps.length ≤ 10 ∧ Chg (g :: [w.heap.size, w.heap.size + 1, w.heap.size + 1 + 1]) w2 wx
set_option maxRecDepth 100000 in
set_option maxHeartbeats 8000000 in
theorem DrawFullReduction_any {A : Option Addr} {c : Nat} {bs : List UInt8} {w : World} (hx : bs.length ≤ 1048576) (h1 : RU w A bs) :
    Calls Try.prog 161 #[.slice A bs.length c] w (DfrP w) := by
  go_enter Try.func161, Try.ntmps161
  go_upto_region 1 with fail
  refine wp_name ?_
  intro W hW
  have xW : ∃ y, W = ext w y := by rw [hW.out]; exact (by refine x'z ?_; repeat (with_reducible (first | exact x'a _ _ | exact x'b _ | exact x'c (by assumption) | refine x'd ?_ (by assumption) | refine x'e ?_ _ | refine x'f ?_ _ | refine x'g ?_ | refine x'h ?_ ?_ _ | refine x'i ?_ _ | refine x'j ?_ | refine x'k ?_ _ | refine x'l ?_ _ _ | refine x'm ?_ | assumption | (refine x'n ?_; omega) | omega)))
  have BW0 : BoxAt W (w.heap.size) #[.slice none 0 0] := by rw [hW.out]; refine ⟨?_, fun j => ?_, fun j => ?_⟩ <;> go_simp
  obtain ⟨lW0, bW0, fW0⟩ := BW0
  have cW0_0 : W.cell? ⟨w.heap.size, 0, none⟩ = some (.slice none 0 0) := bW0 0
  have BW1 : BoxAt W (w.heap.size + 1) #[.int .i64 0, .slice none 0 0, .slice none 0 0] := by rw [hW.out]; refine ⟨?_, fun j => ?_, fun j => ?_⟩ <;> go_simp
  obtain ⟨lW1, bW1, fW1⟩ := BW1
  have cW1_0 : W.cell? ⟨w.heap.size + 1, 0, none⟩ = some (.int .i64 0) := bW1 0
  have cW1_1 : W.cell? ⟨w.heap.size + 1, 1, none⟩ = some (.slice none 0 0) := bW1 1
  have cW1_2 : W.cell? ⟨w.heap.size + 1, 2, none⟩ = some (.slice none 0 0) := bW1 2
  have BW2 : BoxAt W (w.heap.size + 1 + 1) #[.slice none 0 0] := by rw [hW.out]; refine ⟨?_, fun j => ?_, fun j => ?_⟩ <;> go_simp
  obtain ⟨lW2, bW2, fW2⟩ := BW2
  have cW2_0 : W.cell? ⟨w.heap.size + 1 + 1, 0, none⟩ = some (.slice none 0 0) := bW2 0
  clear hW
  have HR := Lib.hid (show BoxAt W w.heap.size #[.slice none 0 0] from ⟨lW0, bW0, fW0⟩)
  have HT := Lib.hid (show BoxAt W (w.heap.size + 1) #[.int .i64 0, .slice none 0 0, .slice none 0 0] from ⟨lW1, bW1, fW1⟩)
  have HU := Lib.hid (show BoxAt W (w.heap.size + 1 + 1) #[.slice none 0 0] from ⟨lW2, bW2, fW2⟩)
  clear bW0 fW0 cW0_0 bW1 fW1 cW1_0 cW1_1 cW1_2 bW2 fW2 cW2_0
  go_wp2_with fail
  refine (l1New_any hx (h1.toExt xW)).mono ?_
  rintro e w1 ⟨g, rfl, hc1⟩
  have hg1 := hc1.1
  have hgl := hc1.lt
  have HR1 := Lib.hid (HR.out.toExt hc1.2.1)
  have HT1 := Lib.hid (HT.out.toExt hc1.2.1)
  have HU1 := Lib.hid (HU.out.toExt hc1.2.1)
  have hz1 := size_of_ext hc1.2.1
  clear HR HT HU
  go_wp2_with fail
  refine (l7Both_any hc1).mono ?_
  rintro e w2 ⟨A2, c2, d, v0, v1, v2, q, rfl, hP, hcap, hD, hQ, hc2, hC2⟩
  obtain ⟨B2, b2, C2, c3, hsh⟩ := vQ_shape (hP [] w2 (by simp) (Chg.refl _ _)).2
  simp only [List.cons.injEq, and_true] at hsh
  obtain ⟨rfl, rfl, rfl⟩ := hsh
  have HP := Lib.hid hP
  have HD := Lib.hid hD
  have HQ := Lib.hid hQ
  have HR2 := Lib.hid (HR1.out.chg hC2 (by simp; omega))
  have HT2 := Lib.hid (HT1.out.chg hC2 (by simp; omega))
  have HU2 := Lib.hid (HU1.out.chg hC2 (by simp; omega))
  have HX2 := Lib.hid (trans_ext xW hc2.2.1)
  have Hc2 := Lib.hid hc2
  have hz2 := hC2.size
  clear hP hcap hD hQ hc2 hC2 hc1 HR1 HT1 HU1
  go_upto_region 3 with fail
  refine wp_name ?_
  intro W3 hW
  have x3 : ∃ y, W3 = ext w2 y := by rw [hW.out]; exact (by refine x'z ?_; repeat (with_reducible (first | exact x'a _ _ | exact x'b _ | exact x'c (by assumption) | refine x'd ?_ (by assumption) | refine x'e ?_ _ | refine x'f ?_ _ | refine x'g ?_ | refine x'h ?_ ?_ _ | refine x'i ?_ _ | refine x'j ?_ | refine x'k ?_ _ | refine x'l ?_ _ _ | refine x'm ?_ | assumption | (refine x'n ?_; omega) | omega)))
  have B6 : BoxAt W3 w2.heap.size #[.slice A2 d.length c2] := by rw [hW.out]; exact (BoxAt.new _ _ _).toExt (alloc_ext _ _)
  have B7 : BoxAt W3 (w2.heap.size + 1) #[.int .i64 q.1, .slice B2 q.2.1.length b2, .slice C2 q.2.2.length c3] := by rw [hW.out]; exact box_second
  have hV3 := HP.out [] W3 (by simp) (Chg.ofExt x3)
  have HR3 := Lib.hid (HR2.out.toExt x3)
  have HT3 := Lib.hid (HT2.out.toExt x3)
  have HU3 := Lib.hid (HU2.out.toExt x3)
  have Hc3 := Lib.hid (Hc2.out.toExt x3)
  have hz3 := size_of_ext x3
  obtain ⟨b6, q6⟩ : ∃ b, w2.heap.size = b := ⟨_, rfl⟩
  have hb6w : w2.heap.size ≤ b6 := by omega
  rw [q6] at B6 B7 ⊢
  have h63 := B6.1
  have h73 := B7.1
  have HB3 := Lib.hid B6
  have HE3 := Lib.hid B7
  obtain ⟨l6, k6, f6⟩ := bx1 B6
  obtain ⟨l7, k70, k71, k72, f7⟩ := box3 B7
  have n6g : b6 ≠ g := by omega
  have n7g : b6 + 1 ≠ g := by omega
  clear hW q6 B6 B7 HR2 HT2 HU2 Hc2
  go_wp2_with fail
  refine (specBuildJoinTree_any HQ.out.b hV3.2).mono ?_
  rintro e w4 ⟨v4, F4, rfl, hx4, hS4, hF4⟩
  have hjl := jtQ_len q
  have hqn := HQ.out.n
  obtain ⟨ps, hps⟩ : ∃ l, jtQ q = l := ⟨_, rfl⟩
  rw [hps] at hS4 hjl
  obtain ⟨A4, a4, rfl, _, _⟩ := hS4.form
  obtain ⟨t2, ht2⟩ : ∃ t, acyB q = t := ⟨_, rfl⟩
  rw [ht2]
  have HS4 := Lib.hid hS4
  have HF4 := Lib.hid hF4
  have Hx4 := Lib.hid hx4
  have hpl10 : ps.length ≤ 10 := by omega
  clear hS4 hF4 hx4 hps ht2 hV3 hjl
  go_upto_region 4 with fail
  refine wp_name ?_
  intro W5 hW
  have x5 : ∃ y, W5 = ext w4 y := by rw [hW.out]; exact (by refine x'z ?_; repeat (with_reducible (first | exact x'a _ _ | exact x'b _ | exact x'c (by assumption) | refine x'd ?_ (by assumption) | refine x'e ?_ _ | refine x'f ?_ _ | refine x'g ?_ | refine x'h ?_ ?_ _ | refine x'i ?_ _ | refine x'j ?_ | refine x'k ?_ _ | refine x'l ?_ _ _ | refine x'm ?_ | assumption | (refine x'n ?_; omega) | omega)))
  have B8 : BoxAt W5 w4.heap.size #[.slice A4 ps.length a4] := by rw [hW.out]; exact BoxAt.new _ _ _
  have xx := trans_ext Hx4.out x5
  have HR5 := Lib.hid (HR3.out.toExt xx)
  have HT5 := Lib.hid (HT3.out.toExt xx)
  have HU5 := Lib.hid (HU3.out.toExt xx)
  have HB5 := Lib.hid (HB3.out.toExt xx)
  have HE5 := Lib.hid (HE3.out.toExt xx)
  have Hc5 := Lib.hid (Hc3.out.toExt xx)
  have HC5 := Lib.hid (Chg.ofExt (F := [g]) (trans_ext x3 xx))
  have HS5 := Lib.hid (HS4.out.toExt x5)
  have HFI := Lib.hid (show ∀ b ∈ F4, W3.heap.size ≤ b ∧ b < w4.heap.size from fun b hb => ⟨HF4.out b hb, HS4.out.lt b hb⟩)
  have hz5 := size_of_ext x5
  have hz45 := size_of_ext Hx4.out
  obtain ⟨b8, q8⟩ : ∃ b, w4.heap.size = b := ⟨_, rfl⟩
  rw [q8] at B8 HFI hz45 ⊢
  have h85 := B8.1
  have HA5 := Lib.hid B8
  have n8g : b8 ≠ g := by omega
  have n6r : b6 ≠ w.heap.size ∧ b6 ≠ w.heap.size + 1 ∧ b6 ≠ w.heap.size + 1 + 1 := by omega
  have n7r : b6 + 1 ≠ w.heap.size ∧ b6 + 1 ≠ w.heap.size + 1 ∧ b6 + 1 ≠ w.heap.size + 1 + 1 := by omega
  have n8r : b8 ≠ w.heap.size ∧ b8 ≠ w.heap.size + 1 ∧ b8 ≠ w.heap.size + 1 + 1 := by omega
  obtain ⟨m61, m62, m63⟩ := n6r
  obtain ⟨m71, m72, m73⟩ := n7r
  obtain ⟨m81, m82, m83⟩ := n8r
  clear hW q8 B8 xx HR3 HT3 HU3 HB3 HE3 Hc3 HS4 HF4 Hx4 l6 k6 f6 l7 k70 k71 k72 f7
  go_cut [27] (fun v wx => ∃ t, v = .bool t ∧ Chg [g] W5 wx ∧ Cur W wx g)
  case first =>
    cases t2 with
    | true =>
      go_wp2_with (go_at_call 146; refine (l1Once_any Hc5.out (by omega) (by omega)).mono ?_; rintro e w7 ⟨t, rfl, hc7, hC7⟩)
      go_meet
      exact ⟨_, rfl, hC7, hc7⟩
    | false =>
      go_wp2_with fail
      go_meet
      exact ⟨_, rfl, Chg.refl _ _, Hc5.out⟩
  obtain ⟨t, rfl, hC6, hc6⟩ := hcut
  obtain ⟨W6, rfl⟩ : ∃ W, W = wc := ⟨_, rfl⟩
  have HR6 := Lib.hid (HR5.out.chg hC6 (by simp; omega))
  have HT6 := Lib.hid (HT5.out.chg hC6 (by simp; omega))
  have HU6 := Lib.hid (HU5.out.chg hC6 (by simp; omega))
  have HB6 := Lib.hid (HB5.out.chg hC6 (by simpa using n6g))
  have HE6 := Lib.hid (HE5.out.chg hC6 (by simpa using n7g))
  have HA6 := Lib.hid (HA5.out.chg hC6 (by simpa using n8g))
  have HC6 := Lib.hid (HC5.out.trans hC6 (fun x hx => .inl hx))
  have HS6 := Lib.hid (HS5.out.chg hC6 (fun b hb h => by have := HFI.out b hb; rw [List.mem_singleton.1 h] at this; omega))
  have Hc6 := Lib.hid hc6
  have hz6 := hC6.size
  have HV6 := Lib.hid (HP.out [g] W6 (by simp; omega) HC6.out).2
  obtain ⟨l6, k6, f6⟩ := bx1 HB6.out
  obtain ⟨l7, k70, k71, k72, f7⟩ := box3 HE6.out
  obtain ⟨l8, k8, f8⟩ := bx1 HA6.out
  obtain ⟨lr, kr, fr⟩ := bx1 HR6.out
  obtain ⟨lt, kt0, kt1, kt2, ft⟩ := box3 HT6.out
  obtain ⟨lu, ku, fu⟩ := bx1 HU6.out
  clear hC6 hc6 HR5 HT5 HU5 HB5 HE5 HA5 HC5 HS5 Hc5
  cases t with
  | true =>
    go_upto_region 5 with fail
    go_cut [] (fun wx => CutF w w2 g A2 d c2 B2 C2 q b2 c3 wx)
    case first =>
      go_region_held3 (fun w' => ∀ b o : Nat, b < W6.heap.size → b ≠ g → b ≠ w.heap.size → b ≠ w.heap.size + 1 → b ≠ w.heap.size + 1 + 1 → w'.cell? ⟨b, o, none⟩ = W6.cell? ⟨b, o, none⟩) (exact heldC3 (by repeat (with_reducible (first | exact Chg.refl _ _ | refine Chg.drew ?_ | refine Chg.alloc ?_ _ | refine Chg.setCell ?_ (.inl (by simp)) _ | refine Chg.trans ?_ hC8 (fun x hx => .inl (by rw [List.mem_singleton.1 hx]; simp)))))) (first | (go_at_call 191; (with_reducible refine (l10Tree_any (Hc6.out.toExt (by repeat (with_reducible (first | exact refl_ext _ | exact alloc_ext _ _ | exact drew_ext _ | assumption | refine trans_ext ?_ (drew_ext _) | refine trans_ext ?_ (alloc_ext _ _) | refine trans_ext ?_ (by assumption))))) HQ.out (VD.toExt HV6.out (by repeat (with_reducible (first | exact refl_ext _ | exact alloc_ext _ _ | exact drew_ext _ | assumption | refine trans_ext ?_ (drew_ext _) | refine trans_ext ?_ (alloc_ext _ _) | refine trans_ext ?_ (by assumption)))))).mono ?_); rintro e w8 ⟨A9, a9, F9, ps9, rfl, hS9, hF9, hl9, hc8, hC8⟩; have HL9 := Lib.hid hl9; obtain ⟨mr, mr0, gr⟩ := bx1 ((HR6.out.toExt (by repeat (with_reducible (first | exact refl_ext _ | exact alloc_ext _ _ | exact drew_ext _ | assumption | refine trans_ext ?_ (drew_ext _) | refine trans_ext ?_ (alloc_ext _ _) | refine trans_ext ?_ (by assumption))))).chg hC8 (by simp; omega)); obtain ⟨mt, mt0, mt1, mt2, gt⟩ := box3 ((HT6.out.toExt (by repeat (with_reducible (first | exact refl_ext _ | exact alloc_ext _ _ | exact drew_ext _ | assumption | refine trans_ext ?_ (drew_ext _) | refine trans_ext ?_ (alloc_ext _ _) | refine trans_ext ?_ (by assumption))))).chg hC8 (by simp; omega)); obtain ⟨mu, mu0, gu⟩ := bx1 ((HU6.out.toExt (by repeat (with_reducible (first | exact refl_ext _ | exact alloc_ext _ _ | exact drew_ext _ | assumption | refine trans_ext ?_ (drew_ext _) | refine trans_ext ?_ (alloc_ext _ _) | refine trans_ext ?_ (by assumption))))).chg hC8 (by simp; omega))))
      all_goals
        go_wp2_with fail
        go_meet
        have hF99 : ∀ b ∈ F9, w.heap.size + 1 + 1 < b := fun b hb => by
          have h9 := hF9 b hb
          (try rw [show W6.drew.heap.size = W6.heap.size from rfl] at h9)
          omega
        exact ⟨A9, a9, ps9, F9, (by repeat (with_reducible (first | exact HR6.out | refine BoxAt.drew ?_ | refine BoxAt.alloc ?_ _ | refine BoxAt.chg ?_ hC8 (by simp; omega) | apply BoxAt.set10 | refine BoxAt.setO ?_ (by omega)))), (by repeat (with_reducible (first | exact HT6.out | refine BoxAt.drew ?_ | refine BoxAt.alloc ?_ _ | refine BoxAt.chg ?_ hC8 (by simp; omega) | apply BoxAt.set32 | apply BoxAt.set31 | apply BoxAt.set30 | refine BoxAt.setO ?_ (by omega)))), (by repeat (with_reducible (first | exact HU6.out | refine BoxAt.drew ?_ | refine BoxAt.alloc ?_ _ | refine BoxAt.chg ?_ hC8 (by simp; omega) | apply BoxAt.set10 | refine BoxAt.setO ?_ (by omega)))), (by repeat (with_reducible (first | exact hS9 | refine SV.toExt ?_ (drew_ext _) | refine SV.toExt ?_ (alloc_ext _ _) | refine SV.chg ?_ (Chg.setCell (F := [w.heap.size, w.heap.size + 1, w.heap.size + 1 + 1]) (Chg.refl _ _) (.inl (by simp)) _) (fun b hb h => by have := hF99 b hb; simp at h; omega)))), hF99, HL9.out, (HC6.out.mono (G := g :: [w.heap.size, w.heap.size + 1, w.heap.size + 1 + 1]) (fun x hx => .inl (by rw [List.mem_singleton.1 hx]; simp))).trans (by repeat (with_reducible (first | exact Chg.refl _ _ | refine Chg.drew ?_ | refine Chg.alloc ?_ _ | refine Chg.setCell ?_ (.inl (by simp)) _ | refine Chg.trans ?_ hC8 (fun x hx => .inl (by rw [List.mem_singleton.1 hx]; simp))))) (fun x hx => .inl hx)⟩
    obtain ⟨DD, ff, ps, FF, hRX, hTX, hUX, hSX, hFX, hLX, hCX⟩ := hcut
    obtain ⟨WX, rfl⟩ : ∃ W, W = wc := ⟨_, rfl⟩
    obtain ⟨lr, kr, fr⟩ := bx1 hRX
    obtain ⟨lt, kt0, kt1, kt2, ft⟩ := box3 hTX
    obtain ⟨lu, ku, fu⟩ := bx1 hUX
    have HSX := Lib.hid hSX
    have HFX := Lib.hid hFX
    have HCX := Lib.hid hCX
    have HLX := Lib.hid hLX
    clear hRX hTX hUX hSX hCX hLX hFX
    go_wp2
    refine bodyPost_ret (v := .tuple #[.agg #[.slice A2 d.length c2], .agg #[.int .i64 q.1, .slice B2 q.2.1.length b2, .slice C2 q.2.2.length c3], .agg #[.slice DD ps.length ff]]) (by simp [results, Try.results161, go_sem, *]) rfl ?_
    show DfrP w _ _
    refine ⟨A2, c2, d, B2, b2, C2, c3, q, DD, ff, ps, rfl, fun GG w9 hG hC9 => ?_, HD.out, HQ.out, HLX.out, HCX.out.isExt HX2.out (fun x hx => by simp at hx; omega)⟩
    have hCC := (HCX.out.mono (G := (g :: [w.heap.size, w.heap.size + 1, w.heap.size + 1 + 1]) ++ GG) (fun x hx => .inl (List.mem_append_left _ hx))).trans hC9 (fun x hx => .inl (List.mem_append_right _ hx))
    have hP := HP.out ((g :: [w.heap.size, w.heap.size + 1, w.heap.size + 1 + 1]) ++ GG) _ (fun x hx => by
      rcases List.mem_append.1 hx with h | h
      · simp at h; omega
      · have := hG x h; omega) hCC
    exact ⟨hP.1, hP.2, (HSX.out.chg hC9 (fun b hb h => by have h1 := HFX.out b hb; have h2 := hG b h; omega)).toView sI_v⟩
  | false =>
    go_upto_region 6 with fail
    go_cut [] (fun wx => CutF w w2 g A2 d c2 B2 C2 q b2 c3 wx)
    case first =>
      go_region_held3 (fun w' => ∀ b o : Nat, b < W6.heap.size → b ≠ g → b ≠ w.heap.size → b ≠ w.heap.size + 1 → b ≠ w.heap.size + 1 + 1 → w'.cell? ⟨b, o, none⟩ = W6.cell? ⟨b, o, none⟩) (exact heldC3 (by repeat (with_reducible (first | exact Chg.refl _ _ | refine Chg.drew ?_ | refine Chg.alloc ?_ _ | refine Chg.setCell ?_ (.inl (by simp)) _ | refine Chg.trans ?_ hC8 (fun x hx => .inl (by rw [List.mem_singleton.1 hx]; simp)))))) (fail)
      all_goals
        go_wp2_with fail
        go_meet
        have hF99 : ∀ b ∈ F4, w.heap.size + 1 + 1 < b := fun b hb => by have := HFI.out b hb; omega
        exact ⟨A4, a4, ps, F4, (by repeat (with_reducible (first | exact HR6.out | refine BoxAt.drew ?_ | refine BoxAt.alloc ?_ _ | refine BoxAt.chg ?_ hC8 (by simp; omega) | apply BoxAt.set10 | refine BoxAt.setO ?_ (by omega)))), (by repeat (with_reducible (first | exact HT6.out | refine BoxAt.drew ?_ | refine BoxAt.alloc ?_ _ | refine BoxAt.chg ?_ hC8 (by simp; omega) | apply BoxAt.set32 | apply BoxAt.set31 | apply BoxAt.set30 | refine BoxAt.setO ?_ (by omega)))), (by repeat (with_reducible (first | exact HU6.out | refine BoxAt.drew ?_ | refine BoxAt.alloc ?_ _ | refine BoxAt.chg ?_ hC8 (by simp; omega) | apply BoxAt.set10 | refine BoxAt.setO ?_ (by omega)))), (by repeat (with_reducible (first | exact HS6.out | refine SV.toExt ?_ (drew_ext _) | refine SV.toExt ?_ (alloc_ext _ _) | refine SV.chg ?_ (Chg.setCell (F := [w.heap.size, w.heap.size + 1, w.heap.size + 1 + 1]) (Chg.refl _ _) (.inl (by simp)) _) (fun b hb h => by have := hF99 b hb; simp at h; omega)))), hF99, hpl10, (HC6.out.mono (G := g :: [w.heap.size, w.heap.size + 1, w.heap.size + 1 + 1]) (fun x hx => .inl (by rw [List.mem_singleton.1 hx]; simp))).trans (by repeat (with_reducible (first | exact Chg.refl _ _ | refine Chg.drew ?_ | refine Chg.alloc ?_ _ | refine Chg.setCell ?_ (.inl (by simp)) _ | refine Chg.trans ?_ hC8 (fun x hx => .inl (by rw [List.mem_singleton.1 hx]; simp))))) (fun x hx => .inl hx)⟩
    obtain ⟨DD, ff, ps, FF, hRX, hTX, hUX, hSX, hFX, hLX, hCX⟩ := hcut
    obtain ⟨WX, rfl⟩ : ∃ W, W = wc := ⟨_, rfl⟩
    obtain ⟨lr, kr, fr⟩ := bx1 hRX
    obtain ⟨lt, kt0, kt1, kt2, ft⟩ := box3 hTX
    obtain ⟨lu, ku, fu⟩ := bx1 hUX
    have HSX := Lib.hid hSX
    have HFX := Lib.hid hFX
    have HCX := Lib.hid hCX
    have HLX := Lib.hid hLX
    clear hRX hTX hUX hSX hCX hLX hFX
    go_wp2
    refine bodyPost_ret (v := .tuple #[.agg #[.slice A2 d.length c2], .agg #[.int .i64 q.1, .slice B2 q.2.1.length b2, .slice C2 q.2.2.length c3], .agg #[.slice DD ps.length ff]]) (by simp [results, Try.results161, go_sem, *]) rfl ?_
    show DfrP w _ _
    refine ⟨A2, c2, d, B2, b2, C2, c3, q, DD, ff, ps, rfl, fun GG w9 hG hC9 => ?_, HD.out, HQ.out, HLX.out, HCX.out.isExt HX2.out (fun x hx => by simp at hx; omega)⟩
    have hCC := (HCX.out.mono (G := (g :: [w.heap.size, w.heap.size + 1, w.heap.size + 1 + 1]) ++ GG) (fun x hx => .inl (List.mem_append_left _ hx))).trans hC9 (fun x hx => .inl (List.mem_append_right _ hx))
    have hP := HP.out ((g :: [w.heap.size, w.heap.size + 1, w.heap.size + 1 + 1]) ++ GG) _ (fun x hx => by
      rcases List.mem_append.1 hx with h | h
      · simp at h; omega
      · have := hG x h; omega) hCC
    exact ⟨hP.1, hP.2, (HSX.out.chg hC9 (fun b hb h => by have h1 := HFX.out b hb; have h2 := hG b h; omega)).toView sI_v⟩
set_option maxRecDepth 100000 in
set_option maxHeartbeats 8000000 in
theorem DrawEvaluateByJoinTree_any {A : Option Addr} {c : Nat} {bs : List UInt8} {w : World} (hx : bs.length ≤ 1048576) (h1 : RU w A bs) :
    Calls Try.prog 81 #[.slice A bs.length c] w (DfrP w) := by
  go_enter Try.func81, Try.ntmps81
  go_upto_region 1 with fail
  refine wp_name ?_
  intro W hW
  have xW : ∃ y, W = ext w y := by rw [hW.out]; exact (by refine x'z ?_; repeat (with_reducible (first | exact x'a _ _ | exact x'b _ | exact x'c (by assumption) | refine x'd ?_ (by assumption) | refine x'e ?_ _ | refine x'f ?_ _ | refine x'g ?_ | refine x'h ?_ ?_ _ | refine x'i ?_ _ | refine x'j ?_ | refine x'k ?_ _ | refine x'l ?_ _ _ | refine x'm ?_ | assumption | (refine x'n ?_; omega) | omega)))
  have BW0 : BoxAt W (w.heap.size) #[.slice none 0 0] := by rw [hW.out]; refine ⟨?_, fun j => ?_, fun j => ?_⟩ <;> go_simp
  obtain ⟨lW0, bW0, fW0⟩ := BW0
  have cW0_0 : W.cell? ⟨w.heap.size, 0, none⟩ = some (.slice none 0 0) := bW0 0
  have BW1 : BoxAt W (w.heap.size + 1) #[.int .i64 0, .slice none 0 0, .slice none 0 0] := by rw [hW.out]; refine ⟨?_, fun j => ?_, fun j => ?_⟩ <;> go_simp
  obtain ⟨lW1, bW1, fW1⟩ := BW1
  have cW1_0 : W.cell? ⟨w.heap.size + 1, 0, none⟩ = some (.int .i64 0) := bW1 0
  have cW1_1 : W.cell? ⟨w.heap.size + 1, 1, none⟩ = some (.slice none 0 0) := bW1 1
  have cW1_2 : W.cell? ⟨w.heap.size + 1, 2, none⟩ = some (.slice none 0 0) := bW1 2
  have BW2 : BoxAt W (w.heap.size + 1 + 1) #[.slice none 0 0] := by rw [hW.out]; refine ⟨?_, fun j => ?_, fun j => ?_⟩ <;> go_simp
  obtain ⟨lW2, bW2, fW2⟩ := BW2
  have cW2_0 : W.cell? ⟨w.heap.size + 1 + 1, 0, none⟩ = some (.slice none 0 0) := bW2 0
  clear hW
  have HR := Lib.hid (show BoxAt W w.heap.size #[.slice none 0 0] from ⟨lW0, bW0, fW0⟩)
  have HT := Lib.hid (show BoxAt W (w.heap.size + 1) #[.int .i64 0, .slice none 0 0, .slice none 0 0] from ⟨lW1, bW1, fW1⟩)
  have HU := Lib.hid (show BoxAt W (w.heap.size + 1 + 1) #[.slice none 0 0] from ⟨lW2, bW2, fW2⟩)
  clear bW0 fW0 cW0_0 bW1 fW1 cW1_0 cW1_1 cW1_2 bW2 fW2 cW2_0
  go_wp2_with fail
  refine (DrawFullReduction_any hx (h1.toExt xW)).mono ?_
  rintro e w2 ⟨A2, c2, d, B2, b2, C2, c3, q, DD, ff, ps, rfl, hP, hD, hQ, hL, hx2⟩
  have HP := Lib.hid hP
  have HD := Lib.hid hD
  have HQ := Lib.hid hQ
  have HL := Lib.hid hL
  have HX := Lib.hid hx2
  have hzW := size_of_ext xW
  obtain ⟨lr, kr, fr⟩ := bx1 (HR.out.toExt hx2)
  obtain ⟨lt, kt0, kt1, kt2, ft⟩ := box3 (HT.out.toExt hx2)
  obtain ⟨lu, ku, fu⟩ := bx1 (HU.out.toExt hx2)
  clear hP hD hQ hL hx2 HR HT HU
  go_wp2
  refine bodyPost_ret (v := .tuple #[.agg #[.slice A2 d.length c2], .agg #[.int .i64 q.1, .slice B2 q.2.1.length b2, .slice C2 q.2.2.length c3], .agg #[.slice DD ps.length ff]]) (by simp [results, Try.results81, go_sem, *]) rfl ?_
  show DfrP w _ _
  have hC := (((((Chg.refl [w.heap.size, w.heap.size + 1, w.heap.size + 1 + 1] w2).setCell (p := ⟨w.heap.size, 0, none⟩) (.inl (by simp)) (.slice A2 d.length c2)).setCell (p := ⟨w.heap.size + 1, 0, none⟩) (.inl (by simp)) (.int .i64 q.1)).setCell (p := ⟨w.heap.size + 1, 1, none⟩) (.inl (by simp)) (.slice B2 q.2.1.length b2)).setCell (p := ⟨w.heap.size + 1, 2, none⟩) (.inl (by simp)) (.slice C2 q.2.2.length c3)).setCell (p := ⟨w.heap.size + 1 + 1, 0, none⟩) (.inl (by simp)) (.slice DD ps.length ff)
  refine ⟨A2, c2, d, B2, b2, C2, c3, q, DD, ff, ps, rfl, fun GG w9 hG hC9 => HP.out ([w.heap.size, w.heap.size + 1, w.heap.size + 1 + 1] ++ GG) w9 (fun x hx => ?_) ((hC.mono (fun x hx => .inl (List.mem_append_left _ hx))).trans hC9 (fun x hx => .inl (List.mem_append_right _ hx))), HD.out, HQ.out, HL.out, hC.isExt (trans_ext xW HX.out) (fun x hx => by simp at hx; omega)⟩
  rcases List.mem_append.1 hx with h | h
  · simp at h; omega
  · have := hG x h; omega
end Go.Proofs.Ytfigcfajkilhiaa
