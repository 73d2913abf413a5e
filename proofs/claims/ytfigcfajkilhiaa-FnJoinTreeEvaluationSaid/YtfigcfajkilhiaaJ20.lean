/- Contracts of functions that the statement reaches. -/
import Derived.Test.YtfigcfajkilhiaaJ19
namespace Go.Proofs.Ytfigcfajkilhiaa
open Go.RowKit
theorem SV.pers {α : Type} {te size : Nat} {E : SE α} [SMono E] {V : VE α} {w : World} {A : Option Addr} {n c : Nat} {ds : List α} {F G : List Nat} (h : SV te size E w (.slice A n c) ds F) (hV : ∀ w c d F, E w c d F → V w c d) (hF : ∀ b ∈ F, b ∉ G) : ∀ w2, Chg G w w2 → RV size V w2 A ds := fun w2 hC => (h.chg hC hF).toView (hV w2)
theorem Db.setRel {te : Nat} {w : World} {d : Dbd} {F G : List Nat} {g2 n cap k : Nat} {A : Option Addr} {c : Nat} {r : Rd} (h : SV te 3 sTb w (.slice (some ⟨g2, 0, none⟩) n cap) d F) (hN : (F ++ G).Nodup) (hk : k < d.length) (hr : sRel w [.int .i64 r.1, .slice A r.2.length c] r G) :
    ∃ F', SV te 3 sTb ((w.setCell ⟨g2, k * 3 + 1, none⟩ (.int .i64 r.1)).setCell ⟨g2, k * 3 + 2, none⟩ (.slice A r.2.length c)) (.slice (some ⟨g2, 0, none⟩) n cap) (d.set k (d[k].1, r)) F' ∧ F'.Nodup ∧ ∀ b ∈ F', b ∈ F ∨ b ∈ G := by
  have hN1 := (List.nodup_append.1 hN).1
  have hGF : ∀ b ∈ G, b ∉ F := fun b hb hf => (List.nodup_append.1 hN).2.2 b hf b hb rfl
  obtain ⟨g, cap', cl, Fk, hv, hg, hgF, hgk, hFk, hNk, hcl, hcells, _, hE, _, hset⟩ := h.at hN1 hk
  injection hv with hv _ hcp
  injection hv with hv
  injection hv with hv
  subst hv
  obtain ⟨A9, n9, rfl⟩ := sTb_list hE
  obtain ⟨A0, c0, _, _, e2, hR⟩ := sTb_form hE
  injection e2 with e2a e2b e2c
  subst e2a e2c
  obtain ⟨_, _, _, _, hI⟩ := sRel_form hR
  obtain ⟨h1, hC1⟩ := hset 1 (.int .i64 r.1) (d[k].1, r.1, d[k].2.2) (by omega) (sTb_mk (sRel_mk hI))
  have hr1 := OD.chg hr hC1 (fun b hb h => hGF b hb (by rw [List.mem_singleton.1 h]; exact hgF))
  obtain ⟨F', h2, h3, h4⟩ := h1.setG (G := G) hN (k := k) (by rw [List.length_set]; exact hk) ⟨_, _, rfl⟩ (j := 2) (u := .slice A r.2.length c) (d' := (d[k].1, r)) (by omega) (fun c9 Fk9 hc9 hE9 hcell9 => by
    obtain ⟨A8, n8, rfl⟩ := sTb_list hE9
    simp only [List.getElem_set_self]
    exact sTb_mk hr1)
  rw [List.set_set] at h2
  exact ⟨F', h2, h3, h4⟩
def AnyDP (w0 : World) (g : Nat) (w : World) (e : Ending) (w' : World) : Prop := ∃ A c d, e = .returned (.agg #[.slice A d.length c]) ∧ (∀ GG w2, (∀ x ∈ GG, x < w.heap.size) → Chg GG w' w2 → RV 3 vTb w2 A d) ∧ d.length ≤ c ∧ DrD d ∧ Cur w0 w' g ∧ Chg [g] w w'
set_option maxRecDepth 100000 in
set_option maxHeartbeats 40000000 in
theorem l6Any_any {g : Nat} {w0 w : World} (hc : Cur w0 w g) : Calls Try.prog 141 #[.pointer (some ⟨g, 0, none⟩)] w (AnyDP w0 g w) := by
  have hgw := hc.lt
  have hw0w := size_of_ext hc.2.1
  have Hc0 := Lib.hid hc
  clear hc
  go_enter Try.func141, Try.ntmps141
  go_upto_region 1 with fail
  refine wp_name ?_
  intro W hW
  have xW : ∃ y, W = ext w y := by rw [hW.out]; exact (by refine x'z ?_; repeat (with_reducible (first | exact x'a _ _ | exact x'b _ | exact x'c (by assumption) | refine x'd ?_ (by assumption) | refine x'e ?_ _ | refine x'f ?_ _ | refine x'g ?_ | refine x'h ?_ ?_ _ | refine x'i ?_ _ | refine x'j ?_ | refine x'k ?_ _ | refine x'l ?_ _ _ | refine x'm ?_ | assumption | (refine x'n ?_; omega) | omega)))
  have BW0 : BoxAt W (w.heap.size) #[.slice none 0 0] := by rw [hW.out]; refine ⟨?_, fun j => ?_, fun j => ?_⟩ <;> go_simp
  obtain ⟨lW0, bW0, fW0⟩ := BW0
  have cW0_0 : W.cell? ⟨w.heap.size, 0, none⟩ = some (.slice none 0 0) := bW0 0
  clear hW
  have HR := Lib.hid (show BoxAt W w.heap.size #[.slice none 0 0] from ⟨lW0, bW0, fW0⟩)
  clear bW0 fW0 cW0_0
  have hzW := size_of_ext xW
  go_wp2_with fail
  refine (l6Db_any (Hc0.out.toExt xW)).mono ?_
  rintro e w1 ⟨v1, F, d, rfl, hS1, hN, hF1, hL, hD, hc1, hC1⟩
  obtain ⟨g2, cap, rfl, hg2F, hcap, _⟩ := hS1.block (by intro e; rw [e] at hL; simp at hL)
  have HC1 := Lib.hid ((Chg.ofExt (F := [g]) xW).trans hC1 (fun x hx => .inl hx))
  have HR1 := Lib.hid (HR.out.chg hC1 (by simp; omega))
  have hz1 := hC1.size
  have HS1 := Lib.hid hS1
  have HN := Lib.hid hN
  have HD := Lib.hid hD
  have HL := Lib.hid hL
  have Hc1 := Lib.hid hc1
  have HF1 := Lib.hid hF1
  have hd5 : (d.length : Int) ≤ 5 := by omega
  have hd50 : (5 : Int) ≤ (d.length : Int) := by omega
  clear hS1 hN hD hL hc1 hC1 hF1
  go_upto_region 2 with fail
  refine wp_name ?_
  intro W3 hW3
  have x3 : ∃ y, W3 = ext w1 y := by rw [hW3.out]; exact (by refine x'z ?_; repeat (with_reducible (first | exact x'a _ _ | exact x'b _ | exact x'c (by assumption) | refine x'd ?_ (by assumption) | refine x'e ?_ _ | refine x'f ?_ _ | refine x'g ?_ | refine x'h ?_ ?_ _ | refine x'i ?_ _ | refine x'j ?_ | refine x'k ?_ _ | refine x'l ?_ _ _ | refine x'm ?_ | assumption | (refine x'n ?_; omega) | omega)))
  have B3 : BoxAt W3 w1.heap.size #[.slice (some ⟨g2, 0, none⟩) d.length cap] := by rw [hW3.out]; exact (by repeat (with_reducible (first | assumption | exact BoxAt.new _ _ _ | apply BoxAt.set10 | apply BoxAt.set2 | refine BoxAt.set2' ?_ (by omega) | apply BoxAt.setP0 | apply BoxAt.setP1 | refine BoxAt.setO ?_ (by omega) | refine BoxAt.alloc ?_ _ | refine BoxAt.drew ?_ | refine BoxAt.toExt ?_ (by assumption))))
  have HR3 := Lib.hid (HR1.out.toExt x3)
  have HC3 := Lib.hid (HC1.out.trans0 x3)
  have Hc3 := Lib.hid (Hc1.out.toExt x3)
  have HS3 := Lib.hid (HS1.out.toExt x3)
  have hz3 := size_of_ext x3
  have hFl := HS1.out.lt
  obtain ⟨b4, q4⟩ : ∃ b, w1.heap.size = b := ⟨_, rfl⟩
  have HF := Lib.hid (show ∀ b ∈ F, W.heap.size ≤ b ∧ b < b4 from fun b hb => ⟨HF1.out b hb, by have := hFl b hb; omega⟩)
  rw [q4] at B3 hz1 ⊢
  have hb4 : b4 < W3.heap.size := B3.1
  have n4g : b4 ≠ g := by omega
  have HB3 := Lib.hid B3
  have hg2 := HF.out g2 hg2F
  have ng2 : g2 ≠ g := by omega
  have n24 : b4 ≠ g2 := by omega
  clear hW3 B3 q4 hFl HS1 HF1 HR1 HC1 Hc1
  go_wp2_with fail
  refine (l1Below_any Hc3.out (by omega) (by omega)).mono ?_
  rintro e w4 ⟨x, rfl, hx0, hx1, hc4, hC4⟩
  obtain ⟨k, rfl⟩ : ∃ k : Nat, x = k := ⟨x.toNat, by omega⟩
  have hk : k < d.length := by omega
  have HB4 := Lib.hid (HB3.out.chg hC4 (by simpa using n4g))
  have HR4 := Lib.hid (HR3.out.chg hC4 (by simp; omega))
  have HC4 := Lib.hid (HC3.out.trans hC4 (fun x hx => .inl hx))
  have HS4 := Lib.hid (HS3.out.chg hC4 (fun b hb h => by have := HF.out b hb; rw [List.mem_singleton.1 h] at this; omega))
  have hz4 := hC4.size
  have Hc4 := Lib.hid hc4
  clear hc4 hC4
  go_wp2_with fail
  refine (l1Below_any Hc4.out (by omega) (by omega)).mono ?_
  rintro e w5 ⟨x, rfl, hy0, hy1, hc5, hC5⟩
  have HB5 := Lib.hid (HB4.out.chg hC5 (by simpa using n4g))
  have HR5 := Lib.hid (HR4.out.chg hC5 (by simp; omega))
  have HC5 := Lib.hid (HC4.out.trans hC5 (fun x hx => .inl hx))
  have HS5 := Lib.hid (HS4.out.chg hC5 (fun b hb h => by have := HF.out b hb; rw [List.mem_singleton.1 h] at this; omega))
  have hz5 := hC5.size
  have Hc5 := Lib.hid hc5
  have hg5 := Hc5.out.lt
  clear hc5 hC5 HB3 HR3 HC3 Hc3 HS3 HB4 HR4 HC4 Hc4 HS4
  obtain ⟨l5, k5, f5⟩ := bx1 HB5.out
  by_cases e0 : x = 0
  · have q0 : (x == 0) = true := by simp [e0]
    have q1 : (x == 1) = false := by simp [e0]
    have q2 : (x == 2) = false := by simp [e0]
    have q3 : (x == 3) = false := by simp [e0]
    clear e0
    go_upto_region 5 with fail
    go_region_law (first
      | (rw [if_pos (by simp [Region.wanted])]; go_wp2_with (go_at_call 138; refine (l1Pick_any (m := 5) (cs := #[.string ⟨#[]⟩, .string ⟨#[82]⟩, .string ⟨#[97, 98, 99, 100, 101]⟩, .string ⟨#[97]⟩, .string ⟨#[122]⟩]) (Hc5.out.toExt (by refine x'z ?_; repeat (with_reducible (first | exact x'a _ _ | exact x'b _ | exact x'c (by assumption) | refine x'd ?_ (by assumption) | refine x'e ?_ _ | refine x'f ?_ _ | refine x'g ?_ | refine x'h ?_ ?_ _ | refine x'i ?_ _ | refine x'j ?_ | refine x'k ?_ _ | refine x'l ?_ _ _ | refine x'm ?_ | assumption | (refine x'n ?_; omega) | omega)))) (by omega) (by omega) (by first | exact BoxAt.new _ _ _ | exact (BoxAt.new _ _ _).drew) (by intro j hj; rcases j with _ | _ | _ | _ | _ | j <;> first | exact ⟨_, rfl⟩ | omega) (by simp; omega)).mono ?_; rintro e w6 ⟨z, j, rfl, hj, hz, hc6, hC6⟩; have hS6 := (HS5.out.toExt (by refine x'z ?_; repeat (with_reducible (first | exact x'a _ _ | exact x'b _ | exact x'c (by assumption) | refine x'd ?_ (by assumption) | refine x'e ?_ _ | refine x'f ?_ _ | refine x'g ?_ | refine x'h ?_ ?_ _ | refine x'i ?_ _ | refine x'j ?_ | refine x'k ?_ _ | refine x'l ?_ _ _ | refine x'm ?_ | assumption | (refine x'n ?_; omega) | omega)))).chg hC6 (fun b hb h => by have := HF.out b hb; rw [List.mem_singleton.1 h] at this; omega); obtain ⟨⟨u1, i3⟩, i4, i5⟩ := hS6.cell rfl (j := k * 3) (by omega); have HS6 := Lib.hid hS6; have HC6 := Lib.hid (show Chg [g] w w6 from (HC5.out.trans0 (by refine x'z ?_; repeat (with_reducible (first | exact x'a _ _ | exact x'b _ | exact x'c (by assumption) | refine x'd ?_ (by assumption) | refine x'e ?_ _ | refine x'f ?_ _ | refine x'g ?_ | refine x'h ?_ ?_ _ | refine x'i ?_ _ | refine x'j ?_ | refine x'k ?_ _ | refine x'l ?_ _ _ | refine x'm ?_ | assumption | (refine x'n ?_; omega) | omega)))).trans hC6 (fun x hx => .inl hx)); have Hc6 := Lib.hid hc6; have HB6 := Lib.hid ((HB5.out.toExt (by refine x'z ?_; repeat (with_reducible (first | exact x'a _ _ | exact x'b _ | exact x'c (by assumption) | refine x'd ?_ (by assumption) | refine x'e ?_ _ | refine x'f ?_ _ | refine x'g ?_ | refine x'h ?_ ?_ _ | refine x'i ?_ _ | refine x'j ?_ | refine x'k ?_ _ | refine x'l ?_ _ _ | refine x'm ?_ | assumption | (refine x'n ?_; omega) | omega)))).chg hC6 (by simpa using n4g)); have HR6 := Lib.hid ((HR5.out.toExt (by refine x'z ?_; repeat (with_reducible (first | exact x'a _ _ | exact x'b _ | exact x'c (by assumption) | refine x'd ?_ (by assumption) | refine x'e ?_ _ | refine x'f ?_ _ | refine x'g ?_ | refine x'h ?_ ?_ _ | refine x'i ?_ _ | refine x'j ?_ | refine x'k ?_ _ | refine x'l ?_ _ _ | refine x'm ?_ | assumption | (refine x'n ?_; omega) | omega)))).chg hC6 (by simp; omega)); have hz6 := hC6.size; have HZ6 := Lib.hid hz; obtain ⟨l6, k6, f6⟩ := bx1 HB6.out; clear hc6 hC6 hS6 hz)))
    all_goals
      have hzs : z.size ≤ 5 := by
        have h := HZ6.out
        rcases j with _ | _ | _ | _ | _ | j
        · injection h with h; injection h with h; rw [← h]; decide
        · injection h with h; injection h with h; rw [← h]; decide
        · injection h with h; injection h with h; rw [← h]; decide
        · injection h with h; injection h with h; rw [← h]; decide
        · injection h with h; injection h with h; rw [← h]; decide
        · omega
      have hsC := (Chg.refl [g2] w6).setCell (p := ⟨g2, k * 3, none⟩) (.inl (by simp)) (.string z)
      obtain ⟨g', cap', cl, Fk, hv, _, _, _, _, _, _, _, _, hE, _, hset⟩ := HS6.out.at HN.out hk
      injection hv with hv _ hvc
      injection hv with hv
      injection hv with hv
      subst hv hvc
      obtain ⟨A9, n9, rfl⟩ := sTb_list hE
      obtain ⟨_, _, _, _, _, hR⟩ := sTb_form hE
      have hS9 := (hset 0 (.string z) (z, d[k].2) (by omega) (sTb_mk hR)).1
      have HB9 := Lib.hid (HB6.out.chg hsC (by simpa using n24))
      have HR9 := Lib.hid (HR6.out.chg hsC (by simp; omega))
      have Hc9 := Lib.hid (Hc6.out.chg hsC (by simpa using fun h => ng2 h.symm) (by simp; omega))
      have HC9 := Lib.hid (HC6.out.trans hsC (fun x hx => .inr (by rw [List.mem_singleton.1 hx]; omega)))
      have HD9 : Hid (DrD (d.set k (z, d[k].2))) := Lib.hid ⟨by rw [List.length_set]; exact HD.out.n, fun t ht => by
        rcases List.mem_or_eq_of_mem_set ht with h | h
        · exact HD.out.t t h
        · have := HD.out.t _ (List.getElem_mem hk)
          rw [h]
          exact ⟨hzs, this.2⟩⟩
      have HLN := Lib.hid (show d.length = (d.set k (z, d[k].2)).length by rw [List.length_set])
      have HCP := Lib.hid (show (d.set k (z, d[k].2)).length ≤ cap by rw [List.length_set]; exact hcap)
      have HV9 := Lib.hid (show ∀ (GG : List Nat) w2, (∀ x ∈ GG, x < w.heap.size) → Chg (w.heap.size :: GG) _ w2 → RV 3 vTb w2 (some ⟨g2, 0, none⟩) (d.set k (z, d[k].2)) from fun GG w2 hG => hS9.pers (V := vTb) (G := w.heap.size :: GG) (fun _ => sTb_v) (fun b hb h => by
        have := HF.out b hb
        rcases List.mem_cons.1 h with h | h
        · omega
        · have := hG b h; omega) w2)
      clear hS9 hsC hset hE hR
      go_upto_region 12 with fail
      refine wp_name ?_
      intro WX hWX
      have eW : w6.setCell ⟨g2, k * 3 + 0, none⟩ (.string z) = WX := by rw [hWX.out]; rfl
      rw [← hWX.out] at HB9 HR9 Hc9 HC9
      rw [eW] at HV9
      clear hWX l6 k6 f6 l5 k5 f5 eW
      obtain ⟨lf1, kf1, ff1⟩ := bx1 HB9.out
      obtain ⟨lf2, kf2, ff2⟩ := bx1 HR9.out
      go_wp2_with fail
      refine bodyPost_ret (v := .agg #[.slice (some ⟨g2, 0, none⟩) d.length cap]) (by simp [results, Try.results141, go_sem, *]) rfl ?_
      show AnyDP w0 g w _ _
      have hC9 := (Chg.refl [w.heap.size] WX).setCell (p := ⟨w.heap.size, 0, none⟩) (.inl (by simp)) (.slice (some ⟨g2, 0, none⟩) d.length cap)
      exact ⟨(some ⟨g2, 0, none⟩), cap, (d.set k (z, d[k].2)), by first | rfl | rw [← HLN.out], fun GG w2 hG hC2 => HV9.out GG w2 hG ((hC9.mono (G := w.heap.size :: GG) (fun x hx => .inl (by rw [List.mem_singleton.1 hx]; simp))).trans hC2 (fun x hx => .inl (List.mem_cons_of_mem _ hx))), HCP.out, HD9.out, Hc9.out.chg hC9 (by simp; omega) (by simp; omega), HC9.out.trans hC9 (fun x hx => .inr (by rw [List.mem_singleton.1 hx]; omega))⟩
  · have q0 : (x == 0) = false := by simp [e0]
    by_cases e1 : x = 1
    · have q1 : (x == 1) = true := by simp [e1]
      have q2 : (x == 2) = false := by simp [e1]
      have q3 : (x == 3) = false := by simp [e1]
      clear e0 e1
      go_upto_region 7 with fail
      go_region_law (first
        | (rw [if_pos (by simp [Region.wanted])]; go_wp2_with (go_at_call 129; refine (l5Any_any (Hc5.out.toExt (by refine x'z ?_; repeat (with_reducible (first | exact x'a _ _ | exact x'b _ | exact x'c (by assumption) | refine x'd ?_ (by assumption) | refine x'e ?_ _ | refine x'f ?_ _ | refine x'g ?_ | refine x'h ?_ ?_ _ | refine x'i ?_ _ | refine x'j ?_ | refine x'k ?_ _ | refine x'l ?_ _ _ | refine x'm ?_ | assumption | (refine x'n ?_; omega) | omega))))).mono ?_; rintro e w6 ⟨u0, u1, F6, r, rfl, hS6, hN6, hF6, hA6, hc6, hC6⟩; obtain ⟨A6, c6, rfl, rfl, _⟩ := sRel_form hS6; have hO6 := (HS5.out.toExt (by refine x'z ?_; repeat (with_reducible (first | exact x'a _ _ | exact x'b _ | exact x'c (by assumption) | refine x'd ?_ (by assumption) | refine x'e ?_ _ | refine x'f ?_ _ | refine x'g ?_ | refine x'h ?_ ?_ _ | refine x'i ?_ _ | refine x'j ?_ | refine x'k ?_ _ | refine x'l ?_ _ _ | refine x'm ?_ | assumption | (refine x'n ?_; omega) | omega)))).chg hC6 (fun b hb h => by have := HF.out b hb; rw [List.mem_singleton.1 h] at this; omega); obtain ⟨⟨u1, i3⟩, i4, i5⟩ := hO6.cell rfl (j := k * 3 + 1) (by omega); obtain ⟨⟨u2, i6⟩, i7, i8⟩ := hO6.cell rfl (j := k * 3 + 2) (by omega); have HO6 := Lib.hid hO6; have HS6 := Lib.hid hS6; have HN6 := Lib.hid hN6; have HF6 := Lib.hid (show ∀ b ∈ F6, w5.heap.size ≤ b from fun b hb => by have := hF6 b hb; simpa using this); have HA6 := Lib.hid hA6; have HC6 := Lib.hid (show Chg [g] w w6 from (HC5.out.trans0 (by refine x'z ?_; repeat (with_reducible (first | exact x'a _ _ | exact x'b _ | exact x'c (by assumption) | refine x'd ?_ (by assumption) | refine x'e ?_ _ | refine x'f ?_ _ | refine x'g ?_ | refine x'h ?_ ?_ _ | refine x'i ?_ _ | refine x'j ?_ | refine x'k ?_ _ | refine x'l ?_ _ _ | refine x'm ?_ | assumption | (refine x'n ?_; omega) | omega)))).trans hC6 (fun x hx => .inl hx)); have Hc6 := Lib.hid hc6; have HB6 := Lib.hid ((HB5.out.toExt (by refine x'z ?_; repeat (with_reducible (first | exact x'a _ _ | exact x'b _ | exact x'c (by assumption) | refine x'd ?_ (by assumption) | refine x'e ?_ _ | refine x'f ?_ _ | refine x'g ?_ | refine x'h ?_ ?_ _ | refine x'i ?_ _ | refine x'j ?_ | refine x'k ?_ _ | refine x'l ?_ _ _ | refine x'm ?_ | assumption | (refine x'n ?_; omega) | omega)))).chg hC6 (by simpa using n4g)); have HR6 := Lib.hid ((HR5.out.toExt (by refine x'z ?_; repeat (with_reducible (first | exact x'a _ _ | exact x'b _ | exact x'c (by assumption) | refine x'd ?_ (by assumption) | refine x'e ?_ _ | refine x'f ?_ _ | refine x'g ?_ | refine x'h ?_ ?_ _ | refine x'i ?_ _ | refine x'j ?_ | refine x'k ?_ _ | refine x'l ?_ _ _ | refine x'm ?_ | assumption | (refine x'n ?_; omega) | omega)))).chg hC6 (by simp; omega)); have hz6 := hC6.size; obtain ⟨l6, k6, f6⟩ := bx1 HB6.out; clear hc6 hC6 hO6 hS6 hN6 hF6 hA6)))
      all_goals
        have hsC := ((Chg.refl [g2] w6).setCell (p := ⟨g2, k * 3 + 1, none⟩) (.inl (by simp)) (.int .i64 r.1)).setCell (p := ⟨g2, k * 3 + 2, none⟩) (.inl (by simp)) (.slice A6 r.2.length c6)
        obtain ⟨F9, hS9, _, hF9⟩ := Db.setRel HO6.out (nodup_more HN.out HN6.out HS5.out.lt HF6.out) hk HS6.out
        have HB9 := Lib.hid (HB6.out.chg hsC (by simpa using n24))
        have HR9 := Lib.hid (HR6.out.chg hsC (by simp; omega))
        have Hc9 := Lib.hid (Hc6.out.chg hsC (by simpa using fun h => ng2 h.symm) (by simp; omega))
        have HC9 := Lib.hid (HC6.out.trans hsC (fun x hx => .inr (by rw [List.mem_singleton.1 hx]; omega)))
        have HD9 : Hid (DrD (d.set k (d[k].1, r))) := Lib.hid ⟨by rw [List.length_set]; exact HD.out.n, fun t ht => by
          rcases List.mem_or_eq_of_mem_set ht with h | h
          · exact HD.out.t t h
          · have := HD.out.t _ (List.getElem_mem hk)
            rw [h]
            exact ⟨this.1, anyR_few HA6.out⟩⟩
        have HLN := Lib.hid (show d.length = (d.set k (d[k].1, r)).length by rw [List.length_set])
        have HCP := Lib.hid (show (d.set k (d[k].1, r)).length ≤ cap by rw [List.length_set]; exact hcap)
        have HV9 := Lib.hid (show ∀ (GG : List Nat) w2, (∀ x ∈ GG, x < w.heap.size) → Chg (w.heap.size :: GG) _ w2 → RV 3 vTb w2 (some ⟨g2, 0, none⟩) (d.set k (d[k].1, r)) from fun GG w2 hG => hS9.pers (V := vTb) (G := w.heap.size :: GG) (fun _ => sTb_v) (fun b hb h => by
          have hb9 : W.heap.size ≤ b := by
            rcases hF9 b hb with h1 | h1
            · have := HF.out b h1; omega
            · have := HF6.out b h1; omega
          rcases List.mem_cons.1 h with h | h
          · omega
          · have := hG b h; omega) w2)
        clear hS9 hsC hF9
        go_upto_region 12 with fail
        refine wp_name ?_
        intro WX hWX
        rw [← hWX.out] at HB9 HR9 Hc9 HC9 HV9
        clear hWX l6 k6 f6 l5 k5 f5
        obtain ⟨lf1, kf1, ff1⟩ := bx1 HB9.out
        obtain ⟨lf2, kf2, ff2⟩ := bx1 HR9.out
        go_wp2_with fail
        refine bodyPost_ret (v := .agg #[.slice (some ⟨g2, 0, none⟩) d.length cap]) (by simp [results, Try.results141, go_sem, *]) rfl ?_
        show AnyDP w0 g w _ _
        have hC9 := (Chg.refl [w.heap.size] WX).setCell (p := ⟨w.heap.size, 0, none⟩) (.inl (by simp)) (.slice (some ⟨g2, 0, none⟩) d.length cap)
        exact ⟨(some ⟨g2, 0, none⟩), cap, (d.set k (d[k].1, r)), by first | rfl | rw [← HLN.out], fun GG w2 hG hC2 => HV9.out GG w2 hG ((hC9.mono (G := w.heap.size :: GG) (fun x hx => .inl (by rw [List.mem_singleton.1 hx]; simp))).trans hC2 (fun x hx => .inl (List.mem_cons_of_mem _ hx))), HCP.out, HD9.out, Hc9.out.chg hC9 (by simp; omega) (by simp; omega), HC9.out.trans hC9 (fun x hx => .inr (by rw [List.mem_singleton.1 hx]; omega))⟩
    · have q1 : (x == 1) = false := by simp [e1]
      by_cases e2 : x = 2
      · have q2 : (x == 2) = true := by simp [e2]
        have q3 : (x == 3) = false := by simp [e2]
        clear e0 e1 e2
        obtain ⟨G, hSK, hGF, hvF, hel⟩ := HS5.out.kept HN.out
        obtain ⟨g', n', cap', cl, hv, hcl, hcells, hK⟩ := hel k hk
        injection hv with hv hvn hvc
        injection hv with hv
        injection hv with hv
        subst hv hvn hvc
        obtain ⟨_, Fk, hEk, _⟩ := hK w5
        obtain ⟨A9, n9, rfl⟩ := sTb_list hEk
        have i0 := hcells 0 (by simp)
        have i1 := hcells 1 (by simp)
        have i2 := hcells 2 (by simp)
        simp only [Nat.add_zero, List.getElem_cons_zero, List.getElem_cons_succ] at i0 i1 i2
        have HSK := Lib.hid hSK
        have HGF := Lib.hid hGF
        have HVF := Lib.hid hvF
        have HK := Lib.hid hK
        have lg5 : g2 < w5.heap.size := by omega
        clear hSK hGF hvF hel hcells hEk hK hcl
        go_upto_region 9 with fail
        go_region_law (first
          | (refine step_app1 (E := sKept sTb w5 G) (d := d[k]) (by rfl) _ _ _ (by rfl) tTb (by rfl) (by rfl) (by rfl) (by rfl) (fun w => HK.out w) (by rfl) (by simp [Value.oneCell']) (HSK.out.toExt (drew_ext _)) (by omega) (by omega) ?_; intro v7 w7 F7 hS7 hC7 hF7; obtain ⟨A7, c7, rfl, hcap7, _⟩ := hS7.form; have B7 := (HB5.out.drew).chg hC7 (fun h => by have := HF.out b4 (HVF.out b4 h).1; omega); obtain ⟨l7, k7, f7⟩ := bx1 B7))
        all_goals
          have hl8 : (d ++ [d[k]]).length = d.length + 1 := by simp
          (try rw [hl8] at hS7)
          (try rw [hl8] at hcap7)
          have hz7 := hC7.size
          have hCd : Chg [g] w w7 := HC5.out.drew.trans hC7 (fun x hx => .inr (by have := HF.out x (HVF.out x hx).1; omega))
          have hR7 : BoxAt w7 w.heap.size #[.slice none 0 0] := HR5.out.drew.chg hC7 (fun h => by have := HF.out _ (HVF.out _ h).1; omega)
          have hc7 : Cur w0 w7 g := (Hc5.out.toExt (drew_ext _)).chg hC7 (fun h => by have := HF.out _ (HVF.out _ h).1; omega) (fun b hb => by have := HF.out b (HVF.out b hb).1; omega)
          have hsC := (Chg.refl [b4] w7).setCell (p := ⟨b4, 0, none⟩) (.inl (by simp)) (.slice A7 (d.length + 1) c7)
          have HB9 := Lib.hid (B7.set10 (u := .slice A7 (d.length + 1) c7))
          have HR9 := Lib.hid (hR7.chg hsC (by simp; omega))
          have Hc9 := Lib.hid (hc7.chg hsC (by simpa using fun h => n4g h.symm) (by simp; omega))
          have HC9 := Lib.hid (hCd.trans hsC (fun x hx => .inr (by rw [List.mem_singleton.1 hx]; omega)))
          have HD9 : Hid (DrD (d ++ [d[k]])) := Lib.hid ⟨by rw [hl8]; have := HL.out; omega, fun t ht => by
            rcases List.mem_append.1 ht with h | h
            · exact HD.out.t t h
            · rw [List.mem_singleton.1 h]; exact HD.out.t _ (List.getElem_mem hk)⟩
          have HLN := Lib.hid (show d.length + 1 = (d ++ [d[k]]).length by rw [hl8])
          have HCP := Lib.hid (show (d ++ [d[k]]).length ≤ c7 by rw [hl8]; exact hcap7)
          have hCK : Chg (fpOf (.slice (some ⟨g2, 0, none⟩) d.length cap) ++ [b4]) w5 (w7.setCell ⟨b4, 0, none⟩ (.slice A7 (d.length + 1) c7)) := (((Chg.refl _ w5).drew.trans hC7 (fun x hx => .inl hx)).mono (fun x hx => .inl (by simp [hx]))).trans hsC (fun x hx => .inl (by rw [List.mem_singleton.1 hx]; simp))
          have hS9 := hS7.chg hsC (fun b hb h => by
            rw [List.mem_singleton.1 h] at hb
            rcases hF7 _ hb with h | h
            · have := HF.out _ (HVF.out _ h).1; omega
            · have : b4 < w5.heap.size := l5
              rw [show w5.drew.heap.size = w5.heap.size from rfl] at h; omega)
          have HV9 : Hid (∀ (GG : List Nat) w2, (∀ x ∈ GG, x < w.heap.size) → Chg (w.heap.size :: GG) (w7.setCell ⟨b4, 0, none⟩ (.slice A7 (d.length + 1) c7)) w2 → RV 3 vTb w2 A7 (d ++ [d[k]])) := Lib.hid fun GG w2 hG hC2 => by
            have h9 : SV 108 3 (sKept sTb w5 G) w2 _ _ F7 := hS9.chg hC2 (fun b hb h => by
              have hb9 : W.heap.size ≤ b := by
                rcases hF7 b hb with h1 | h1
                · have := HF.out b (HVF.out b h1).1; omega
                · rw [show w5.drew.heap.size = w5.heap.size from rfl] at h1; omega
              rcases List.mem_cons.1 h with h | h
              · omega
              · have := hG b h; omega)
            have hCH : Chg (fpOf (.slice (some ⟨g2, 0, none⟩) d.length cap) ++ [b4] ++ (w.heap.size :: GG)) w5 w2 := (hCK.mono (fun x hx => .inl (List.mem_append_left _ hx))).trans hC2 (fun x hx => .inl (List.mem_append_right _ hx))
            refine h9.toView (sKept_v (fun _ => sTb_v) hCH fun b hb h => ?_)
            have h1 := HF.out b (HGF.out b hb)
            rcases List.mem_append.1 h with h | h
            · rcases List.mem_append.1 h with h | h
              · exact (HVF.out b h).2 hb
              · rw [List.mem_singleton.1 h] at h1; omega
            · rcases List.mem_cons.1 h with h | h
              · omega
              · have := hG b h; omega
          clear hS9 hsC hCK hS7 hC7 hF7 hCd hR7 hc7 B7 i0 i1 i2
          go_upto_region 12 with fail
          refine wp_name ?_
          intro WX hWX
          rw [← hWX.out] at HB9 HR9 Hc9 HC9 HV9
          clear hWX l7 k7 f7 l5 k5 f5
          obtain ⟨lf1, kf1, ff1⟩ := bx1 HB9.out
          obtain ⟨lf2, kf2, ff2⟩ := bx1 HR9.out
          go_wp2_with fail
          refine bodyPost_ret (v := .agg #[.slice A7 (d.length + 1) c7]) (by simp [results, Try.results141, go_sem, *]) rfl ?_
          show AnyDP w0 g w _ _
          have hC9 := (Chg.refl [w.heap.size] WX).setCell (p := ⟨w.heap.size, 0, none⟩) (.inl (by simp)) (.slice A7 (d.length + 1) c7)
          exact ⟨A7, c7, (d ++ [d[k]]), by first | rfl | rw [← HLN.out], fun GG w2 hG hC2 => HV9.out GG w2 hG ((hC9.mono (G := w.heap.size :: GG) (fun x hx => .inl (by rw [List.mem_singleton.1 hx]; simp))).trans hC2 (fun x hx => .inl (List.mem_cons_of_mem _ hx))), HCP.out, HD9.out, Hc9.out.chg hC9 (by simp; omega) (by simp; omega), HC9.out.trans hC9 (fun x hx => .inr (by rw [List.mem_singleton.1 hx]; omega))⟩
      · have q2 : (x == 2) = false := by simp [e2]
        by_cases e3 : x = 3
        · have q3 : (x == 3) = true := by simp [e3]
          clear e0 e1 e2 e3
          have i0 : (0 : Int) ≤ (k : Int) := by omega
          have i1 : (k : Int) ≤ (d.length : Int) := by omega
          have i2 : (k : Int) ≤ (cap : Int) := by omega
          have hB9 := HB5.out.set10 (u := .slice (some ⟨g2, 0, none⟩) k cap)
          have hsC := (Chg.refl [b4] w5).setCell (p := ⟨b4, 0, none⟩) (.inl (by simp)) (.slice (some ⟨g2, 0, none⟩) k cap)
          have HB9 := Lib.hid hB9
          have HR9 := Lib.hid (HR5.out.chg hsC (by simp; omega))
          have Hc9 := Lib.hid (Hc5.out.chg hsC (by simpa using fun h => n4g h.symm) (by simp; omega))
          have HC9 := Lib.hid (HC5.out.trans hsC (fun x hx => .inr (by rw [List.mem_singleton.1 hx]; omega)))
          have HD9 : Hid (DrD (d.take k)) := Lib.hid ⟨by rw [List.length_take]; have := HL.out; omega, fun t ht => HD.out.t t (List.mem_of_mem_take ht)⟩
          have HLN := Lib.hid (show k = (d.take k).length by rw [List.length_take]; omega)
          have HCP := Lib.hid (show (d.take k).length ≤ cap by rw [List.length_take]; omega)
          have hS9 := HS5.out.chg hsC (fun b hb h => by have := HF.out b hb; rw [List.mem_singleton.1 h] at this; omega)
          have HV9 : Hid (∀ (GG : List Nat) w2, (∀ x ∈ GG, x < w.heap.size) → Chg (w.heap.size :: GG) (w5.setCell ⟨b4, 0, none⟩ (.slice (some ⟨g2, 0, none⟩) k cap)) w2 → RV 3 vTb w2 (some ⟨g2, 0, none⟩) (d.take k)) := Lib.hid fun GG w2 hG hC2 => by
            have h := (hS9.pers (V := vTb) (G := w.heap.size :: GG) (fun _ => sTb_v) (fun b hb h => by
              have := HF.out b hb
              rcases List.mem_cons.1 h with h | h
              · omega
              · have := hG b h; omega) w2 hC2).cut (lo := 0) (hi := k) (by omega) (by omega) (A' := some ⟨g2, 0, none⟩) (fun b o e _ => by injection e with e; injection e with e1 e2; subst e1 e2; simp)
            simpa using h
          clear hB9 hsC hS9
          go_upto_region 12 with fail
          refine wp_name ?_
          intro WX hWX
          rw [← hWX.out] at HB9 HR9 Hc9 HC9 HV9
          clear hWX l5 k5 f5
          obtain ⟨lf1, kf1, ff1⟩ := bx1 HB9.out
          obtain ⟨lf2, kf2, ff2⟩ := bx1 HR9.out
          go_wp2_with fail
          refine bodyPost_ret (v := .agg #[.slice (some ⟨g2, 0, none⟩) k cap]) (by simp [results, Try.results141, go_sem, *]) rfl ?_
          show AnyDP w0 g w _ _
          have hC9 := (Chg.refl [w.heap.size] WX).setCell (p := ⟨w.heap.size, 0, none⟩) (.inl (by simp)) (.slice (some ⟨g2, 0, none⟩) k cap)
          exact ⟨(some ⟨g2, 0, none⟩), cap, (d.take k), by first | rfl | rw [← HLN.out], fun GG w2 hG hC2 => HV9.out GG w2 hG ((hC9.mono (G := w.heap.size :: GG) (fun x hx => .inl (by rw [List.mem_singleton.1 hx]; simp))).trans hC2 (fun x hx => .inl (List.mem_cons_of_mem _ hx))), HCP.out, HD9.out, Hc9.out.chg hC9 (by simp; omega) (by simp; omega), HC9.out.trans hC9 (fun x hx => .inr (by rw [List.mem_singleton.1 hx]; omega))⟩
        · have q3 : (x == 3) = false := by simp [e3]
          clear e0 e1 e2 e3
          go_upto_region 12 with fail
          clear l5 k5 f5
          have HB9 := HB5
          have HR9 := HR5
          have HC9 := HC5
          have Hc9 := Hc5
          have HD9 := HD
          have HLN := Lib.hid (show d.length = d.length from rfl)
          have HCP := Lib.hid hcap
          have HV9 : Hid (∀ (GG : List Nat) w2, (∀ x ∈ GG, x < w.heap.size) → Chg (w.heap.size :: GG) w5 w2 → RV 3 vTb w2 (some ⟨g2, 0, none⟩) d) := Lib.hid (fun GG w2 hG => HS5.out.pers (G := w.heap.size :: GG) (fun _ => sTb_v) (fun b hb h => by
            have := HF.out b hb
            rcases List.mem_cons.1 h with h | h
            · omega
            · have := hG b h; omega) w2)
          obtain ⟨lf1, kf1, ff1⟩ := bx1 HB9.out
          obtain ⟨lf2, kf2, ff2⟩ := bx1 HR9.out
          go_wp2_with fail
          refine bodyPost_ret (v := .agg #[.slice (some ⟨g2, 0, none⟩) d.length cap]) (by simp [results, Try.results141, go_sem, *]) rfl ?_
          show AnyDP w0 g w _ _
          have hC9 := (Chg.refl [w.heap.size] w5).setCell (p := ⟨w.heap.size, 0, none⟩) (.inl (by simp)) (.slice (some ⟨g2, 0, none⟩) d.length cap)
          exact ⟨(some ⟨g2, 0, none⟩), cap, d, by first | rfl | rw [← HLN.out], fun GG w2 hG hC2 => HV9.out GG w2 hG ((hC9.mono (G := w.heap.size :: GG) (fun x hx => .inl (by rw [List.mem_singleton.1 hx]; simp))).trans hC2 (fun x hx => .inl (List.mem_cons_of_mem _ hx))), HCP.out, HD9.out, Hc9.out.chg hC9 (by simp; omega) (by simp; omega), HC9.out.trans hC9 (fun x hx => .inr (by rw [List.mem_singleton.1 hx]; omega))⟩
end Go.Proofs.Ytfigcfajkilhiaa
