/- Contracts of functions that the statement reaches. -/
import Derived.Deep.RegionLaw
import Derived.Deep.DrawnRows
import Derived.Deep.DeepCutAuto
import Derived.Test.YtbjpkfgkmilkdaaG05
import Derived.Test.YtbjpkfgkmilkdaaG06
namespace Go.Proofs.Ytbjpkfgkmilkdaa
open Go.RowKit
attribute [local go_sem ↓] Go.wp_at_zero Go.wp_at_succ
theorem pqS_step {n : Int} {ats : List At} {xs : List ByteArray} {k : Nat} (h : k < xs.length) : pqS n ats (xs.drop k) = pqS (mxv n (lst (bl xs[k]))) (ats ++ [((splB 40 xs[k]).getD 0 ⟨#[]⟩, lst (bl xs[k]))]) (xs.drop (k + 1)) := by
  rw [List.drop_eq_getElem_cons h, pqS]
theorem pqS_end {n : Int} {ats : List At} {xs : List ByteArray} {k : Nat} (h : ¬ k < xs.length) : pqS n ats (xs.drop k) = (n, ats) := by
  rw [List.drop_eq_nil_of_le (by omega), pqS]
def uu (n : Int) (b : UInt8) (i : Int) : Int := match vix b with
  | some v => if n ≤ v ∧ v < i then v + 1 else n
  | none => n
theorem uu_zero (n : Int) (b : UInt8) : uu n b n = n := by
  unfold uu
  cases vix b with
  | none => rfl
  | some v => simp only; rw [if_neg (by omega)]
theorem uu_hit {n i : Int} {b : UInt8} (h : vix b = some i) (hn : n ≤ i) : uu n b (i + 1) = i + 1 := by
  unfold uu
  rw [h]
  simp only
  rw [if_pos (by omega)]
theorem uu_miss {n i : Int} {b : UInt8} (h : ¬ vix b = some i) : uu n b (i + 1) = uu n b i := by
  unfold uu
  cases e : vix b with
  | none => rfl
  | some v =>
    have hv : v ≠ i := fun e2 => h (by rw [e, e2])
    simp only
    by_cases hlt : n ≤ v ∧ v < i
    · rw [if_pos hlt, if_pos (by omega)]
    · rw [if_neg hlt, if_neg (by omega)]
theorem uu_bd {n i : Int} {b : UInt8} (h0 : 0 ≤ n) (h5 : n ≤ 5) : 0 ≤ uu n b i ∧ uu n b i ≤ 5 := by
  unfold uu
  cases e : vix b with
  | none => exact ⟨h0, h5⟩
  | some v => have := vix_bd e; simp only; split <;> omega
theorem uu_five {n : Int} {b : UInt8} (l : List UInt8) : mxv (uu n b 5) (lst l) = mxv n (lst (b :: l)) := by
  unfold uu lst
  rw [List.filterMap_cons]
  cases e : vix b with
  | none => rfl
  | some v =>
    have := vix_bd e
    simp only
    show _ = mxv (max n (v + 1)) _
    congr 1
    split <;> omega
theorem lstB_step {s : ByteArray} {k : Nat} (h : k < s.size) : (bl s).drop k = s[k] :: (bl s).drop (k + 1) := by
  rw [List.drop_eq_getElem_cons (by rw [bl_length]; exact h), bl_get s h]
set_option maxRecDepth 100000 in
set_option maxHeartbeats 16000000 in
theorem specParseQuery_any {s : ByteArray} {w : World} (hs : s.size ≤ 1048576) : Calls Try.prog 26 #[.string s] w (PqRes s w) := by
  have hpos := splB_pos 61 s
  obtain ⟨p, hp⟩ : ∃ p, (splB 61 s).getD 0 ⟨#[]⟩ = p := ⟨_, rfl⟩
  have HP := Lib.hid hp
  have hps : p.size ≤ s.size := by
    rw [← hp, show (splB 61 s).getD 0 ⟨#[]⟩ = (splB 61 s)[0] by simp [List.getD_eq_getElem?_getD, hpos]]
    exact splB_piece (List.getElem_mem hpos)
  obtain ⟨ws, hws⟩ : ∃ ws, splB 61 s = ws := ⟨_, rfl⟩
  have HW := Lib.hid hws
  rw [hws] at hpos HP
  have hw61 : ws.length ≤ s.size + 1 := by rw [← hws]; exact splB_length 61 s
  clear hp hws
  go_enter Try.func26, Try.ntmps26
  go_upto_region 1 with fail
  refine wp_name ?_
  intro W hW
  have xW : ∃ y, W = ext w y := by rw [hW.out]; exact (by refine x'z ?_; repeat (with_reducible (first | exact x'a _ _ | exact x'b _ | exact x'c (by assumption) | refine x'd ?_ (by assumption) | refine x'e ?_ _ | refine x'f ?_ _ | refine x'g ?_ | refine x'h ?_ ?_ _ | refine x'i ?_ _ | refine x'j ?_ | refine x'k ?_ _ | refine x'l ?_ _ _ | refine x'm ?_ | assumption | (refine x'n ?_; omega) | omega)))
  have BW0 : BoxAt W (w.heap.size) #[.int .i64 0, .slice none 0 0, .slice none 0 0] := by rw [hW.out]; refine ⟨?_, fun j => ?_, fun j => ?_⟩ <;> go_simp
  obtain ⟨lW0, bW0, fW0⟩ := BW0
  have cW0_0 : W.cell? ⟨w.heap.size, 0, none⟩ = some (.int .i64 0) := bW0 0
  have cW0_1 : W.cell? ⟨w.heap.size, 1, none⟩ = some (.slice none 0 0) := bW0 1
  have cW0_2 : W.cell? ⟨w.heap.size, 2, none⟩ = some (.slice none 0 0) := bW0 2
  clear hW
  have RW : BoxAt W w.heap.size #[.int .i64 0, .slice none 0 0, .slice none 0 0] := ⟨lW0, bW0, fW0⟩
  clear bW0 fW0 cW0_0 cW0_1 cW0_2
  go_wp2_with fail
  refine (l5Cut_m 61 61 (by omega) (by decide)).mono ?_
  rintro e w1 ⟨vw, Fw, rfl, hx1, hSw, hFw⟩
  rw [HW.out] at hSw
  obtain ⟨A1, c1, rfl, _, _, r1⟩ := hSw.view sS_v
  have hx01 := trans_ext xW hx1
  have R1 := RW.toExt hx1
  have hzw1 : w.heap.size < w1.heap.size := R1.1
  obtain ⟨b1, o1, rfl, hb1, hc1⟩ := r1.atS1 hpos HP.out
  clear hSw hFw RW lW0
  by_cases hl : ws.length = 2
  · have q1 : ((ws.length : Int) != 2) = false := by simp [hl]
    have h2w : 1 < ws.length := by omega
    obtain ⟨p2, hp2⟩ : ∃ p, ws.getD 1 ⟨#[]⟩ = p := ⟨_, rfl⟩
    have hps2 : p2.size ≤ s.size := by
      rw [← hp2, show ws.getD 1 ⟨#[]⟩ = ws[1] by simp [List.getD_eq_getElem?_getD, h2w]]
      have := splB_piece (c := 61) (s := s) (p := ws[1]) (by rw [HW.out]; exact List.getElem_mem h2w)
      exact this
    have HP2 := Lib.hid hp2
    have HE := Lib.hid (show pQ s = finQ ((pqS 0 [] (splB 44 p2)).1, (pqS 0 [] (splB 44 p2)).2, lst (bl p)) s by
      rw [← pQs_eq]
      unfold pQs
      rw [HW.out, HP.out, hp2]
      rw [if_pos hl])
    clear hp2 hl
    go_wp2_with fail
    refine (l7List_any (by omega)).mono ?_
    rintro e w2 ⟨vo, Fo, rfl, hx2, hSo, hFo⟩
    have hol : (lst (bl p)).length ≤ s.size := Nat.le_trans (lst_len _) (by rw [bl_length]; exact hps)
    have hin := lst_in (bl p)
    obtain ⟨out, hout⟩ : ∃ o, lst (bl p) = o := ⟨_, rfl⟩
    rw [hout] at HE hSo hol hin
    obtain ⟨Ao, co, rfl, _, _⟩ := hSo.form
    have hx02 := trans_ext hx01 hx2
    have r2 := r1.toExt hx2
    have R2 := R1.toExt hx2
    obtain ⟨l2, k2, k2', k2'', f2⟩ := box3 R2
    clear hout R1
    go_upto_region 5 with fail
    refine wp_name ?_
    intro W3 hW3
    have x3 : ∃ y, W3 = ext w2 y := by rw [hW3.out]; exact (by refine x'z ?_; repeat (with_reducible (first | exact x'a _ _ | exact x'b _ | exact x'c (by assumption) | refine x'd ?_ (by assumption) | refine x'e ?_ _ | refine x'f ?_ _ | refine x'g ?_ | refine x'h ?_ ?_ _ | refine x'i ?_ _ | refine x'j ?_ | refine x'k ?_ _ | refine x'l ?_ _ _ | refine x'm ?_ | assumption | (refine x'n ?_; omega) | omega)))
    have B7 : BoxAt W3 w2.heap.size #[.int .i64 0, .slice none 0 0, .slice Ao out.length co] := by rw [hW3.out]; exact (by repeat (with_reducible (first | assumption | exact BoxAt.new _ _ _ | apply BoxAt.set3 | refine BoxAt.set3' ?_ (by omega) | apply BoxAt.set30 | apply BoxAt.set31 | apply BoxAt.set32 | apply BoxAt.set2 | refine BoxAt.set2' ?_ (by omega) | apply BoxAt.setP0 | apply BoxAt.setP1 | refine BoxAt.setO ?_ (by omega) | refine BoxAt.alloc ?_ _ | refine BoxAt.drew ?_ | refine BoxAt.toExt ?_ (by assumption))))
    have hb7 : w.heap.size < w2.heap.size := l2
    have hFo2 := hSo.lt
    have So3 := hSo.toExt x3
    have R3 := R2.toExt x3
    have r3 := r2.toExt x3
    have hx03 := trans_ext hx02 x3
    obtain ⟨b7, q7⟩ : ∃ b, w2.heap.size = b := ⟨_, rfl⟩
    rw [q7] at B7 hb7 hFo2 ⊢
    have hb7w : b7 < W3.heap.size := B7.1
    clear hW3 x3 q7 R2 r1 r2 hSo l2 k2 k2' k2'' f2 hb1 hc1 hx1 hx2 hx01 hx02 xW
    obtain ⟨b1', o1', e1, hb1, hc1⟩ := r3.atS h2w
    injection e1 with e1
    injection e1 with e1 e2
    subst e1 e2
    rw [show ws[1] = p2 by rw [← HP2.out]; simp [List.getD_eq_getElem?_getD, h2w]] at hc1
    go_wp2_with fail
    refine (l5Cut_m 44 44 (by omega) (by decide)).mono ?_
    rintro e w4 ⟨vx, Fx, rfl, hx4, hSx, hFx⟩
    obtain ⟨xs, hxs⟩ : ∃ xs, splB 44 p2 = xs := ⟨_, rfl⟩
    have hxl : xs.length ≤ p2.size + 1 := by rw [← hxs]; exact splB_length 44 p2
    have hxp : ∀ x ∈ xs, x.size ≤ p2.size := by rw [← hxs]; exact fun x hx => splB_piece hx
    rw [hxs] at hSx HE
    obtain ⟨Ax, cx, rfl, _, _⟩ := hSx.form
    have B74 := B7.toExt hx4
    have So4 := So3.toExt hx4
    have R4 := R3.toExt hx4
    have HX4 := Lib.hid (trans_ext hx03 hx4)
    have hz4 := size_of_ext hx4
    have h7x : ∀ b ∈ Fx, b ∉ [b7] := fun b hb h => by have := hFx b hb; rw [List.mem_singleton.1 h] at this; omega
    have h7o : ∀ b ∈ Fo, b ∉ [b7] := fun b hb h => by have := hFo2 b hb; rw [List.mem_singleton.1 h] at this; omega
    have HSx := Lib.hid hSx
    have HSo := Lib.hid So4
    have H7x := Lib.hid h7x
    have H7o := Lib.hid h7o
    have HR4 := Lib.hid R4
    have HXP := Lib.hid hxp
    have HB74 := Lib.hid B74
    have HFo := Lib.hid hFo
    have h74 : b7 < w4.heap.size := B74.1
    clear hxs hxp hSx hFx h7x h7o B7 B74 So3 So4 R3 R4 r3 hb1 hc1 hx03 hx4 hFo2 hFo
    go_wp2_with fail
    go_loopw [7] (fun i wr => ∃ (k : Nat) (n : Int) (ats : List At) (A : Option Addr) (c : Nat) (F : List Nat), i = .int .i64 k ∧ k ≤ xs.length ∧ BoxAt wr b7 #[.int .i64 n, .slice A ats.length c, .slice Ao out.length co] ∧ SV 89 2 sAt wr (.slice A ats.length c) ats F ∧ F.Nodup ∧ (∀ b ∈ F, w4.heap.size ≤ b) ∧ Chg [b7] w4 wr ∧ 0 ≤ n ∧ n ≤ 5 ∧ ats.length ≤ k ∧ (∀ x ∈ ats, x.1.size ≤ 4194304 ∧ x.2.length ≤ 4194304) ∧ Hid (pqS n ats (xs.drop k) = pqS 0 [] xs)) (fun i _ => xs.length - (intOf i).toNat)
    case atStart => exact ⟨0, 0, [], none, 0, [], rfl, by omega, HB74.out, SV.nil, by simp, by simp, Chg.refl _ _, by omega, by omega, by simp, by simp, Lib.hid rfl⟩
    case round =>
      obtain ⟨k, n, ats, A, c, F, rfl, hk, hB, hS, hN, hF, hC, hn0, hn5, hal, hab, Hj⟩ := hrel
      have HS := Lib.hid hS
      have HN := Lib.hid hN
      have HF := Lib.hid hF
      have HC := Lib.hid hC
      have HAB := Lib.hid hab
      have HB := Lib.hid hB
      have h7r : b7 < wr.heap.size := hB.1
      by_cases hlt : k < xs.length
      · obtain ⟨_, _, e5, _, _, rx⟩ := HSx.out.view sS_v
        injection e5 with e5 _ e6
        subst e5 e6
        obtain ⟨bx, ox, rfl, hbx4, hcx4⟩ := rx.atS hlt
        obtain ⟨wd, hwd⟩ : ∃ x, xs[k] = x := ⟨_, rfl⟩
        have hwdp : wd.size ≤ p2.size := by rw [← hwd]; exact HXP.out _ (List.getElem_mem hlt)
        have ej := Hj.out
        rw [pqS_step hlt] at ej
        rw [hwd] at ej hcx4
        have HWD := Lib.hid hwd
        have HEJ := Lib.hid ej
        have hpw := splB_pos 40 wd
        have hnx : b7 ≠ bx := by
          intro e
          obtain ⟨gx, _, eA, gm, _, _⟩ := HSx.out.block (by intro e; rw [e] at hlt; simp at hlt)
          injection eA with eA
          injection eA with eA
          injection eA with eA
          subst eA
          exact H7x.out _ gm (by simp [e])
        have HCX : Hid (∀ W : World, Chg [b7] w4 W → W.cell? ⟨bx, ox + k, none⟩ = some (.string wd) ∧ bx < W.heap.size) := Lib.hid (fun W h => ⟨by rw [h.cell (by simp; omega) hbx4]; exact hcx4, Nat.lt_of_lt_of_le hbx4 h.size⟩)
        obtain ⟨hcx, hbx⟩ := HCX.out wr hC
        clear hcx4 hbx4
        obtain ⟨ps, hps3⟩ : ∃ ps, splB 40 wd = ps := ⟨_, rfl⟩
        have hpp : ∀ x ∈ ps, x.size ≤ wd.size := by rw [← hps3]; exact fun x hx => splB_piece hx
        have HPS := Lib.hid hps3
        rw [hps3] at hpw
        obtain ⟨nm, hnm⟩ : ∃ x, ps.getD 0 ⟨#[]⟩ = x := ⟨_, rfl⟩
        have hnms : nm.size ≤ wd.size := by
          rw [← hnm, show ps.getD 0 ⟨#[]⟩ = ps[0] by simp [List.getD_eq_getElem?_getD, hpw]]
          exact hpp _ (List.getElem_mem hpw)
        have HNM := Lib.hid hnm
        clear hwd ej hps3 hnm hpp hS hN hF hC hab rx
        go_wp2_with fail
        refine (l5Cut_m 40 40 (by omega) (by decide)).mono ?_
        rintro e w5 ⟨vp, Fp, rfl, hx5, hSp, hFp⟩
        rw [HPS.out] at hSp
        obtain ⟨Ap, cp, rfl, _, _, rp⟩ := hSp.view sS_v
        obtain ⟨bp, op, rfl, hbp, hcp⟩ := rp.atS1 hpw HNM.out
        have HSp := Lib.hid hSp
        have HFp := Lib.hid hFp
        have B5 := HB.out.toExt hx5
        obtain ⟨l5, k5, k5', k5'', f5⟩ := box3 B5
        have hcx5 : w5.cell? ⟨bx, ox + k, none⟩ = some (.string wd) := by obtain ⟨y, e⟩ := hx5; rw [e, cell_ext hbx]; exact hcx
        have hbx5 : bx < w5.heap.size := Nat.lt_of_lt_of_le hbx (size_of_ext hx5)
        have hz5 := size_of_ext hx5
        have HX5 := Lib.hid hx5
        have HFl5 : Hid (∀ b ∈ F, b < w5.drew.heap.size) := Lib.hid (fun b hb => Nat.lt_of_lt_of_le (HS.out.lt b hb) (by simpa using hz5))
        have hzc := HC.out.size
        have h7nF : b7 ∉ F := fun h => by have := HF.out b7 h; omega
        have hal2 : ats.length + 1 ≤ 2000000000 := by omega
        have hlw : (lst (bl wd)).length ≤ wd.size := Nat.le_trans (lst_len _) (by rw [bl_length]; omega)
        obtain ⟨L, hL⟩ : ∃ L, lst (bl wd) = L := ⟨_, rfl⟩
        have HL := Lib.hid hL
        rw [hL] at hlw
        clear hL hSp hFp rp hcx hbx hB
        go_upto_region 10 with fail
        go_cut [] (fun wx => ∃ (A6 : Option Addr) (c6 : Nat) (F6 : List Nat), BoxAt wx b7 #[.int .i64 n, .slice A6 (ats ++ [(nm, L)]).length c6, .slice Ao out.length co] ∧ SV 89 2 sAt wx (.slice A6 (ats ++ [(nm, L)]).length c6) (ats ++ [(nm, L)]) F6 ∧ F6.Nodup ∧ (∀ b ∈ F6, w4.heap.size ≤ b) ∧ Chg [b7] w4 wx)
        case first =>
          go_region_law (first
            | (refine step_appB (E := sAt) (d := (nm, L)) (G := Fl) (cs := #[.string nm, .slice Al L.length cl]) (by rfl) _ _ _ (by rfl) tA (by rfl) (by rfl) (by exact BoxAt.new _ _ _) (by simpa using sP_mk (F0 := []) ⟨rfl, rfl⟩ ⟨_, rfl, hSl.toExt (alloc_ext _ _)⟩) (by rfl) (by simp [Value.oneCell']) (SA6.toExt (alloc_ext _ _)) hNN hal2 (by omega) ?_; intro v7 w7 F7 hS7 hC7 hN7 hF7; obtain ⟨A7, c7, rfl, _, _⟩ := hS7.form; have B7 := (B6.alloc (.cells #[.string nm, .slice Al L.length cl] 89)).chg hC7 h7nF; obtain ⟨l7, k7, k7', k7'', f7⟩ := box3 B7)
            | (rw [if_pos (by simp [Region.wanted])]; go_wp2_with (go_at_call 69; refine (l7List_any (by omega)).mono ?_; rintro e w6 ⟨vl, Fl, rfl, hx6, hSl, hFl6⟩; rw [HL.out] at hSl; obtain ⟨Al, cl, rfl, _, _⟩ := hSl.form; have B6 := B5.drew.toExt hx6; obtain ⟨l6, k6, k6', k6'', f6⟩ := box3 B6; have hcp6 : w6.cell? ⟨bp, op, none⟩ = some (.string nm) := (by obtain ⟨y, e⟩ := hx6; rw [e, cell_ext (by simpa using hbp)]; simpa using hcp); have hbp6 : bp < w6.heap.size := Nat.lt_of_lt_of_le hbp (by simpa using size_of_ext hx6); have SA6 := ((HS.out.toExt HX5.out).toExt (drew_ext w5)).toExt hx6; have hz6 := size_of_ext hx6; have hNN := nodup_more HN.out hSl.nodup HFl5.out hFl6)))
          all_goals
            have hCa := ((((((HC.out.trans0 HX5.out).drew).trans0 hx6).alloc (.cells #[.string nm, .slice Al L.length cl] 89)).trans hC7 (fun x hx => .inr (HF.out x hx))).setCell (p := ⟨b7, 1, none⟩) (.inl (by simp)) (.slice A7 (ats ++ [(nm, L)]).length c7))
            have hF7n : ∀ b ∈ F7, w4.heap.size ≤ b := fun b hb => by
              have hz6' : w5.heap.size ≤ w6.heap.size := by simpa using hz6
              rcases hF7 b hb with h | h | h
              · exact HF.out b h
              · have h8 := hFl6 b h
                rw [show w5.drew.heap.size = w5.heap.size from rfl] at h8
                omega
              · rw [World.size_alloc] at h; omega
            have hSf := hS7.chg ((Chg.refl [b7] w7).setCell (p := ⟨b7, 1, none⟩) (.inl (by simp)) (.slice A7 (ats ++ [(nm, L)]).length c7)) (fun b hb h => by have := hF7n b hb; rw [List.mem_singleton.1 h] at this; omega)
            have hBf := B7.set31 (u := .slice A7 (ats ++ [(nm, L)]).length c7)
            have HH := Lib.hid (And.intro hSf (And.intro hBf (And.intro hCa hF7n)))
            have HN7 := Lib.hid hN7
            clear hCa hF7n hSf hBf hS7 hC7 hN7 hF7 B7 SA6 hSl hFl6
            go_wp2_with fail
            go_meet
            rw [show ats.length + 1 = (ats ++ [(nm, L)]).length by simp]
            exact ⟨A7, c7, F7, HH.out.2.1, HH.out.1, HN7.out, HH.out.2.2.2, HH.out.2.2.1⟩
        obtain ⟨A6, c6, F6, hB6, hS6, hN6, hF6, hC6⟩ := hcut
        obtain ⟨Wz, rfl⟩ : ∃ W, W = wc := ⟨_, rfl⟩
        have HB6 := Lib.hid hB6
        have HS6 := Lib.hid hS6
        have HN6 := Lib.hid hN6
        have HF6 := Lib.hid hF6
        have HC6 := Lib.hid hC6
        have HABf : Hid (∀ x ∈ ats ++ [(nm, L)], x.1.size ≤ 4194304 ∧ x.2.length ≤ 4194304) := Lib.hid (fun x hx => by
          rcases List.mem_append.1 hx with h | h
          · exact HAB.out x h
          · rw [List.mem_singleton.1 h]; dsimp only; omega)
        have hal3 : (ats ++ [(nm, L)]).length ≤ k + 1 := by simp; omega
        obtain ⟨ats2, ha2⟩ : ∃ a, ats ++ [(nm, L)] = a := ⟨_, rfl⟩
        have HEJ2 : Hid (pqS (mxv n L) ats2 (xs.drop (k + 1)) = pqS 0 [] xs) := Lib.hid (by
          have := HEJ.out
          rw [HL.out] at this
          rw [← ha2, ← HNM.out, ← HPS.out]
          exact this)
        rw [ha2] at HB6 HS6 HABf hal3
        clear ha2 hB6 hS6 hN6 hF6 hC6 HS HB HN HF HC HAB HEJ l5 k5 k5' k5'' f5 hcx5 hbx5 B5 hcp hbp HSp HFp hal hal2 h7nF HFl5 HX5 HNM HPS
        go_wp2_with fail
        go_loopw [9] (fun i vr => ∃ (j : Nat) (n' : Int), i = .int .i64 j ∧ j ≤ wd.size ∧ BoxAt vr b7 #[.int .i64 n', .slice A6 ats2.length c6, .slice Ao out.length co] ∧ Chg [b7] Wz vr ∧ 0 ≤ n' ∧ n' ≤ 5 ∧ Hid (mxv n' (lst ((bl wd).drop j)) = mxv n L)) (fun i _ => wd.size - (intOf i).toNat)
        case atStart => exact ⟨0, n, rfl, by omega, HB6.out, Chg.refl _ _, hn0, hn5, Lib.hid (by rw [List.drop_zero, HL.out])⟩
        case round =>
          obtain ⟨j, n', rfl, hj, hBj, hCj, hm0, hm5, Hj2⟩ := hrel
          have hCw := HC6.out.trans hCj (fun x hx => .inl hx)
          obtain ⟨hcxj, hbxj⟩ := HCX.out _ hCw
          obtain ⟨lj, kj, kj', kj'', fj⟩ := box3 hBj
          have HBj := Lib.hid hBj
          have HCj := Lib.hid hCj
          clear hCw hBj hCj
          by_cases hjl : j < wd.size
          · obtain ⟨b, hb⟩ : ∃ b, wd[j] = b := ⟨_, rfl⟩
            have HB := Lib.hid hb
            have e9 := Hj2.out
            rw [lstB_step hjl, hb, ← uu_five] at e9
            have HJ3 := Lib.hid e9
            have HU0 := Lib.hid (uu_zero n' b)
            clear hb e9
            go_wp2_with fail
            go_loopw [10] (fun i vs => ∃ (q : Int), i = .int .i64 q ∧ n' ≤ q ∧ q ≤ 5 ∧ BoxAt vs b7 #[.int .i64 (uu n' b q), .slice A6 ats2.length c6, .slice Ao out.length co] ∧ Chg [b7] Wz vs) (fun i _ => (5 - intOf i).toNat)
            case atStart => exact ⟨n', rfl, by omega, hm5, by rw [HU0.out]; exact HBj.out, HCj.out⟩
            case round =>
              obtain ⟨q, rfl, hq0, hq5, hBq, hCq⟩ := hrel
              have hCw2 := HC6.out.trans hCq (fun x hx => .inl hx)
              obtain ⟨hcxq, hbxq⟩ := HCX.out _ hCw2
              obtain ⟨lq, kq, kq', kq'', fq⟩ := box3 hBq
              have HBq := Lib.hid hBq
              have HCq := Lib.hid hCq
              clear hCw2 hBq hCq
              by_cases hql : q < 5
              · have hve := vname_eq (v := q) hjl (by omega) (by omega)
                rw [HB.out] at hve
                by_cases hit : vix b = some q
                · have q3 := str_beqt (hve.2 hit)
                  have HV := Lib.hid (uu_hit hit hq0)
                  clear hve hit
                  go_wp2_with fail
                  refine wp_region_ext (by kernel_rfl) (by kernel_rfl) ?_
                  repeat (go_big_quiet_step ((go_at_call 70; exact quietS (specVariableName_any _ _))))
                  refine wpQuiet_nil ?_
                  rintro _ ⟨z, rfl⟩
                  have B9 := HBq.out.toExt (w' := ext wr z) ⟨z, rfl⟩
                  have C9 := HCq.out.trans0 (c := ext wr z) ⟨z, rfl⟩
                  obtain ⟨l9, k9, k9', k9'', f9⟩ := box3 B9
                  have HB9 := Lib.hid B9
                  have HC9 := Lib.hid C9
                  clear B9 C9
                  go_wp2
                  exact ⟨⟨q + 1, by go_num, by omega, by omega, by rw [HV.out]; exact HB9.out.set30, HC9.out.setCell (.inl (by simp)) _⟩, by simp [intOf]; omega⟩
                · have q3 := str_beqf (fun e => hit (hve.1 e))
                  have HV := Lib.hid (uu_miss (n := n') hit)
                  clear hve hit
                  go_wp2_with fail
                  refine wp_region_ext (by kernel_rfl) (by kernel_rfl) ?_
                  repeat (go_big_quiet_step ((go_at_call 70; exact quietS (specVariableName_any _ _))))
                  refine wpQuiet_nil ?_
                  rintro _ ⟨z, rfl⟩
                  go_wp2
                  exact ⟨⟨q + 1, by go_num, by omega, by omega, by rw [HV.out]; exact HBq.out.toExt ⟨z, rfl⟩, HCq.out.trans0 ⟨z, rfl⟩⟩, by simp [intOf]; omega⟩
              · obtain rfl : q = 5 := by omega
                have hub := uu_bd (b := b) (i := 5) hm0 hm5
                go_wp2
                exact ⟨⟨j + 1, uu n' b 5, by go_num, by omega, HBq.out, HCq.out, hub.1, hub.2, HJ3⟩, by simp [intOf]; omega⟩
          · have e9 := Hj2.out
            rw [List.drop_eq_nil_of_le (by rw [bl_length]; omega)] at e9
            have e10 : n' = mxv n L := e9
            clear e9
            subst e10
            have hSf := HS6.out.chg HCj.out (fun b hb h => by have := HF6.out b hb; rw [List.mem_singleton.1 h] at this; omega)
            have HSf := Lib.hid hSf
            clear hSf
            go_wp2
            exact ⟨⟨k + 1, mxv n L, ats2, A6, c6, F6, by go_num, by omega, HBj.out, HSf.out, HN6.out, HF6.out, HC6.out.trans HCj.out (fun x hx => .inl hx), hm0, hm5, hal3, HABf.out, HEJ2⟩, by simp [intOf]; omega⟩
      · have ej := Hj.out
        rw [pqS_end hlt] at ej
        have HE3 := Lib.hid (show pQ s = finQ (n, ats, out) s by rw [HE.out, ← ej])
        have hXr := HC.out.isExt HX4.out (by simp; omega)
        have Sor := HSo.out.chg HC.out H7o.out
        have R5 := HR4.out.chg HC.out (by simp; omega)
        have hq : sQ wr [.int .i64 n, .slice A ats.length c, .slice Ao out.length co] (n, ats, out) ([] ++ (F ++ Fo)) := sP_mk ⟨rfl, rfl⟩ (sP_mk ⟨_, rfl, HS.out⟩ ⟨_, rfl, Sor⟩)
        rw [List.nil_append] at hq
        have hz4w := size_of_ext HX4.out
        have hFn : ∀ b ∈ F ++ Fo, w.heap.size < b := fun b hb => by
          rcases List.mem_append.1 hb with h | h
          · have := HF.out b h; omega
          · have := HFo.out b h; omega
        have hNN : (F ++ Fo).Nodup := List.nodup_append.2 ⟨HN.out, Sor.nodup, fun a ha b hb e => by
          have h1 := HF.out a ha
          have h2 := HSo.out.lt b hb
          omega⟩
        have HQ := Lib.hid hq
        have HFN := Lib.hid hFn
        have HNN := Lib.hid hNN
        have HXr := Lib.hid hXr
        have hWQ : WQ (n, ats, out) := ⟨⟨by dsimp only; omega, by dsimp only; omega⟩, ⟨by dsimp only; omega, HAB.out⟩, by dsimp only; omega⟩
        have HWQ := Lib.hid hWQ
        obtain ⟨l7, k7, k7', k7'', f7⟩ := box3 hB
        obtain ⟨l5, k5, k5', k5'', f5⟩ := box3 R5
        have HB7 := Lib.hid hB
        have HR5 := Lib.hid R5
        clear ej hS hN hF hC hab hB hq hFn hNN hXr hWQ Sor R5
        obtain ⟨t, ht⟩ : ∃ t, fmtQ (n, ats, out) = t := ⟨_, rfl⟩
        have HT := Lib.hid ht
        by_cases hts : t = s
        · have q8 := str_bnet hts
          have q9 := str_beqt hts
          by_cases hs0 : s.size = 0
          · have HE4 := Lib.hid (show pQ s = none by rw [HE3.out]; unfold finQ; rw [if_neg (fun h => h.2 hs0)])
            have z1 := isEmpty_yes hs0
            have z2 : (s.toList == (ByteArray.mk #[]).toList) = true := str_beqt (bl_inj (size_zero hs0))
            clear ht hts hs0
            go_wp2_with (go_at_call 64; refine (specFormatQuery_w (d := (n, ats, out)) HWQ.out (sQ_v _ _ _ HQ.out)).mono ?_; rintro e w8 ⟨rfl, hx8⟩; rw [HT.out]; obtain ⟨l8, k8, k8', k8'', f8⟩ := box3 (HB7.out.toExt hx8); obtain ⟨l9, k9, k9', k9'', f9⟩ := box3 (HR5.out.toExt hx8))
            have hX := HXr.out
            exact bodyPost_ret (v := .tuple #[.agg #[.int .i64 0, .slice none 0 0, .slice none 0 0], .bool false]) (by simp [results, Try.results26, go_sem, *]) rfl ⟨_, _, _, [], by rw [HE4.out]; rfl, (by refine x'z ?_; repeat (with_reducible (first | exact x'a _ _ | exact x'b _ | exact x'c (by assumption) | refine x'd ?_ (by assumption) | refine x'e ?_ _ | refine x'f ?_ _ | refine x'g ?_ | refine x'h ?_ ?_ _ | refine x'i ?_ _ | refine x'j ?_ | refine x'k ?_ _ | refine x'l ?_ _ _ | refine x'm ?_ | assumption | (refine x'n ?_; omega) | omega))), by rw [HE4.out]; exact zQ_own _, by simp, by simp⟩
          · have z1 := isEmpty_no (s := s) (by omega)
            have z2 := toList_empty (s := s) (by omega)
            have HE4 := Lib.hid (show pQ s = some (n, ats, out) by rw [HE3.out]; unfold finQ; rw [if_pos ⟨ht.trans hts, hs0⟩])
            clear ht hts hs0
            go_wp2_with (go_at_call 64; refine (specFormatQuery_w (d := (n, ats, out)) HWQ.out (sQ_v _ _ _ HQ.out)).mono ?_; rintro e w8 ⟨rfl, hx8⟩; rw [HT.out]; obtain ⟨l8, k8, k8', k8'', f8⟩ := box3 (HB7.out.toExt hx8); obtain ⟨l9, k9, k9', k9'', f9⟩ := box3 (HR5.out.toExt hx8))
            have hX := HXr.out
            have hQ8 : sQ w8 [.int .i64 n, .slice A ats.length c, .slice Ao out.length co] (n, ats, out) (F ++ Fo) := OD.toExt HQ.out hx8
            exact bodyPost_ret (v := .tuple #[.agg #[.int .i64 n, .slice A ats.length c, .slice Ao out.length co], .bool true]) (by simp [results, Try.results26, go_sem, *]) rfl ⟨_, _, _, F ++ Fo, by rw [HE4.out]; rfl, (by refine x'z ?_; repeat (with_reducible (first | exact x'a _ _ | exact x'b _ | exact x'c (by assumption) | refine x'd ?_ (by assumption) | refine x'e ?_ _ | refine x'f ?_ _ | refine x'g ?_ | refine x'h ?_ ?_ _ | refine x'i ?_ _ | refine x'j ?_ | refine x'k ?_ _ | refine x'l ?_ _ _ | refine x'm ?_ | assumption | (refine x'n ?_; omega) | omega))), by rw [HE4.out]; exact OD.chg (G := [w.heap.size]) hQ8 (by repeat (with_reducible (first | exact Chg.refl _ _ | refine Chg.trans0 ?_ (by assumption) | refine Chg.extS ?_ _ | refine Chg.alloc ?_ _ | refine Chg.drew ?_ | refine Chg.setCell ?_ (.inl (by simp)) _))) (fun b hb h => by have := HFN.out b hb; rw [List.mem_singleton.1 h] at this; omega), HNN.out, fun b hb => Nat.le_of_lt (HFN.out b hb)⟩
        · have q8 := str_bnef hts
          have q9 := str_beqf hts
          have HE4 := Lib.hid (show pQ s = none by rw [HE3.out]; unfold finQ; rw [if_neg (fun h => hts (ht.symm.trans h.1))])
          clear ht hts
          go_wp2_with (go_at_call 64; refine (specFormatQuery_w (d := (n, ats, out)) HWQ.out (sQ_v _ _ _ HQ.out)).mono ?_; rintro e w8 ⟨rfl, hx8⟩; rw [HT.out]; obtain ⟨l8, k8, k8', k8'', f8⟩ := box3 (HB7.out.toExt hx8); obtain ⟨l9, k9, k9', k9'', f9⟩ := box3 (HR5.out.toExt hx8))
          have hX := HXr.out
          exact bodyPost_ret (v := .tuple #[.agg #[.int .i64 0, .slice none 0 0, .slice none 0 0], .bool false]) (by simp [results, Try.results26, go_sem, *]) rfl ⟨_, _, _, [], by rw [HE4.out]; rfl, (by refine x'z ?_; repeat (with_reducible (first | exact x'a _ _ | exact x'b _ | exact x'c (by assumption) | refine x'd ?_ (by assumption) | refine x'e ?_ _ | refine x'f ?_ _ | refine x'g ?_ | refine x'h ?_ ?_ _ | refine x'i ?_ _ | refine x'j ?_ | refine x'k ?_ _ | refine x'l ?_ _ _ | refine x'm ?_ | assumption | (refine x'n ?_; omega) | omega))), by rw [HE4.out]; exact zQ_own _, by simp, by simp⟩
  · have q1 : ((ws.length : Int) != 2) = true := by rw [bne_iff_ne]; omega
    have HE := Lib.hid (show pQ s = none by
      rw [← pQs_eq]
      unfold pQs
      rw [HW.out, if_neg hl])
    obtain ⟨l2, k2, k2', k2'', f2⟩ := box3 R1
    clear hl
    go_wp2
    exact bodyPost_ret (v := .tuple #[.agg #[.int .i64 0, .slice none 0 0, .slice none 0 0], .bool false]) (by simp [results, Try.results26, go_sem, *]) rfl ⟨_, _, _, [], by rw [HE.out]; rfl, (by refine x'z ?_; repeat (with_reducible (first | exact x'a _ _ | exact x'b _ | exact x'c (by assumption) | refine x'd ?_ (by assumption) | refine x'e ?_ _ | refine x'f ?_ _ | refine x'g ?_ | refine x'h ?_ ?_ _ | refine x'i ?_ _ | refine x'j ?_ | refine x'k ?_ _ | refine x'l ?_ _ _ | refine x'm ?_ | assumption | (refine x'n ?_; omega) | omega))), by rw [HE.out]; exact zQ_own _, by simp, by simp⟩
end Go.Proofs.Ytbjpkfgkmilkdaa
