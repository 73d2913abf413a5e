/- Contracts of functions that the statement reaches. -/
import Derived.Deep.RegionHeld3
import Derived.Deep.RegionLaw
import Derived.Test.YtfigcfajkilhiaaGreatE19
import Derived.Test.YtfigcfajkilhiaaGreatE21
import Derived.Test.YtfigcfajkilhiaaGreatE22
import Derived.Test.YtfigcfajkilhiaaGreatE25
import Derived.Test.YtfigcfajkilhiaaGreatE17
import Derived.Test.YtfigcfajkilhiaaGreatE26
import Derived.Test.YtfigcfajkilhiaaGreatE16
namespace Go.Proofs.YtfigcfajkilhiaaGreat
open Go.RowKit
def fullR (d : Dbd) (q : Qd) (ps : List Int) : Option (List VRd) := if iqfB d q = true ∧ ivjB q ps = true then some (fullD d q (prs ps (upL ps))) else none
def FrP (o : Option (List VRd)) (w : World) (e : Ending) (w' : World) : Prop := ∃ v F, e = .returned (.tuple #[v, .bool o.isSome]) ∧ (∃ y, w' = ext w y) ∧ SV 69 3 sVR w' v (o.getD []) F ∧ F.Nodup ∧ ∀ b ∈ F, w.heap.size ≤ b
theorem tVR : SlT Tryz.prog 34 69 3 56 (.agg #[.slice none 0 0, .int .i64 0, .slice none 0 0]) := ⟨Tryz.underlying34, by kernel_rfl, rfl, by omega⟩
theorem vr_at {te : Nat} {w : World} {g n c k : Nat} {ds : List VRd} {F : List Nat} (h : SV te 3 sVR w (.slice (some ⟨g, 0, none⟩) n c) ds F) (hN : F.Nodup) (hk : k < ds.length) : ∃ A a B b, w.cell? ⟨g, k * 3, none⟩ = some (.slice A (ds.getD k zV).1.length a) ∧ w.cell? ⟨g, k * 3 + 1, none⟩ = some (.int .i64 (ds.getD k zV).2.1) ∧ w.cell? ⟨g, k * 3 + 2, none⟩ = some (.slice B (ds.getD k zV).2.2.length b) ∧ vVR w [.slice A (ds.getD k zV).1.length a, .int .i64 (ds.getD k zV).2.1, .slice B (ds.getD k zV).2.2.length b] (ds.getD k zV) := by
  rw [getDl _ _ hk]
  obtain ⟨g', cap, cl, Fk, hv, _, _, _, _, _, hl, hcells, _, hE, _, _⟩ := h.at hN hk
  injection hv with hv
  injection hv with hv
  injection hv with hv
  subst hv
  rcases cl with _ | ⟨u, _ | ⟨v, _ | ⟨x, _ | ⟨y, cl⟩⟩⟩⟩
  · simp at hl
  · simp at hl
  · simp at hl
  · obtain ⟨A, a, B, b, rfl, rfl, rfl⟩ := sVR_form hE
    exact ⟨A, a, B, b, by simpa using hcells 0 (by simp), by simpa using hcells 1 (by simp), by simpa using hcells 2 (by simp), sVR_v _ _ _ hE⟩
  · simp at hl
theorem mem_getD {xs : List Int} {k : Nat} (h : k < xs.length) : xs.getD k 0 ∈ xs := by rw [getDl _ _ h]; exact List.getElem_mem h
theorem vr_cell {te : Nat} {w : World} {g n c k : Nat} {ds : List VRd} {F : List Nat} (h : SV te 3 sVR w (.slice (some ⟨g, 0, none⟩) n c) ds F) (hn : ds.length = n) (hk : k < n) : ((∃ u, w.cell? ⟨g, k * 3, none⟩ = some u) ∧ w.frozen? ⟨g, k * 3, none⟩ = false) ∧ ((∃ u, w.cell? ⟨g, k * 3 + 1, none⟩ = some u) ∧ w.frozen? ⟨g, k * 3 + 1, none⟩ = false) ∧ ((∃ u, w.cell? ⟨g, k * 3 + 2, none⟩ = some u) ∧ w.frozen? ⟨g, k * 3 + 2, none⟩ = false) ∧ g < w.heap.size := by
  obtain ⟨a1, a2, a3⟩ := h.cell hn (j := k * 3) (by omega)
  obtain ⟨b1, b2, _⟩ := h.cell hn (j := k * 3 + 1) (by omega)
  obtain ⟨c1, c2, _⟩ := h.cell hn (j := k * 3 + 2) (by omega)
  exact ⟨⟨a1, a2⟩, ⟨b1, b2⟩, ⟨c1, c2⟩, a3⟩
theorem semi_at {ds : List VRd} (h : OkDs ds) {p i : Nat} (hp : p < ds.length) (hi : i < ds.length) : ∃ x, semiR (ds.getD p zV) (ds.getD i zV) = some x ∧ semiD ds p i = ds.set p x ∧ BVR (ds.getD p zV) ∧ BVR (ds.getD i zV) := by
  obtain ⟨x, h1, _, h3⟩ := semiD_eq h hp hi
  refine ⟨x, ?_, h3, ?_, ?_⟩
  · rw [getDl _ _ hp, getDl _ _ hi]; exact h1
  · rw [getDl _ _ hp]; exact vrok_bd (h.get hp)
  · rw [getDl _ _ hi]; exact vrok_bd (h.get hi)
theorem upD_len (ps o : List Int) (k : Nat) (ds : List VRd) : (upD ps o k ds).length = ds.length := runD_len _ _
theorem dnD_len (ps o : List Int) (k : Nat) (ds : List VRd) : (dnD ps o k ds).length = ds.length := runD_len _ _
theorem upD_ok {ps o : List Int} {ds : List VRd} (hd : OkDs ds) (hl : ps.length = ds.length) (hps : ∀ x ∈ ps, x < (ps.length : Int)) (ho : ∀ i ∈ o, 0 ≤ i ∧ i < (ps.length : Int)) : ∀ k, k ≤ o.length → OkDs (upD ps o k ds)
  | 0, _ => hd
  | k + 1, hk => by
    have ih := upD_ok hd hl hps ho k (by omega)
    have hi := ho o[k] (List.getElem_mem (by omega))
    obtain ⟨i, e⟩ : ∃ i : Nat, o[k] = (i : Int) := ⟨o[k].toNat, by omega⟩
    by_cases hp : 0 ≤ ps.getD i 0
    · have hil : i < ps.length := by omega
      have h2 := hps (ps.getD i 0) (by rw [getDl _ _ hil]; exact List.getElem_mem hil)
      rw [upD_yes (by omega) e (p := (ps.getD i 0).toNat) (by omega)]
      exact ih.semi (by rw [upD_len]; omega) (by rw [upD_len]; omega)
    · rw [upD_no (by omega) e (by omega)]; exact ih
theorem dnD_ok {ps o : List Int} {ds : List VRd} (hd : OkDs ds) (hl : ps.length = ds.length) (hps : ∀ x ∈ ps, x < (ps.length : Int)) (ho : ∀ i ∈ o, 0 ≤ i ∧ i < (ps.length : Int)) : ∀ j k, k + j = o.length → OkDs (dnD ps o k ds)
  | 0, k, hk => by rw [dnD_end (by omega)]; exact hd
  | j + 1, k, hk => by
    have ih := dnD_ok hd hl hps ho j (k + 1) (by omega)
    have hi := ho o[k] (List.getElem_mem (by omega))
    obtain ⟨i, e⟩ : ∃ i : Nat, o[k] = (i : Int) := ⟨o[k].toNat, by omega⟩
    by_cases hp : 0 ≤ ps.getD i 0
    · have hil : i < ps.length := by omega
      have h2 := hps (ps.getD i 0) (by rw [getDl _ _ hil]; exact List.getElem_mem hil)
      rw [dnD_yes (by omega) e (p := (ps.getD i 0).toNat) (by omega)]
      exact ih.semi (by rw [dnD_len]; omega) (by rw [dnD_len]; omega)
    · rw [dnD_no (by omega) e (by omega)]; exact ih
theorem semi_put {te n c g p : Nat} {w0 w5 : World} {ds : List VRd} {x : VRd} {F F5 : List Nat} {u v y : Value} {W : World} (hS : SV te 3 sVR w0 (.slice (some ⟨g, 0, none⟩) n c) ds F) (hl : ds.length = n) (hN : F.Nodup) (hp : p < n) (hx : ∃ z, w5 = ext w0 z) (h5 : sVR w5 [u, v, y] x F5) (hN5 : F5.Nodup) (hF5 : ∀ b ∈ F5, w0.heap.size ≤ b) (hF : ∀ b ∈ F, W.heap.size ≤ b) (hW : W.heap.size ≤ w0.heap.size) :
    ∃ F', SV te 3 sVR (((w5.setCell ⟨g, p * 3, none⟩ u).setCell ⟨g, p * 3 + 1, none⟩ v).setCell ⟨g, p * 3 + 2, none⟩ y) (.slice (some ⟨g, 0, none⟩) n c) (ds.set p x) F' ∧ Chg [g] w0 (((w5.setCell ⟨g, p * 3, none⟩ u).setCell ⟨g, p * 3 + 1, none⟩ v).setCell ⟨g, p * 3 + 2, none⟩ y) ∧ F'.Nodup ∧ ∀ b ∈ F', W.heap.size ≤ b := by
  obtain ⟨F', h1, h2, h3, h4, _⟩ := (hS.toExt hx).swap3 (k := p) hl (List.nodup_append.2 ⟨hN, hN5, fun a ha b hb e => by have h1 := hS.lt a ha; have h2 := hF5 b hb; omega⟩) (by omega) h5
  refine ⟨F', h1, (Chg.ofExt (F := [g]) hx).trans h2 (fun x hx => .inl hx), h3, fun b hb => ?_⟩
  rcases h4 b hb with h | h
  · exact hF b h
  · have := hF5 b h; omega
theorem cell_x {w w' : World} {b o : Nat} {v : Value} (h : w.cell? ⟨b, o, none⟩ = some v) (hb : b < w.heap.size) (hx : ∃ y, w' = ext w y) : w'.cell? ⟨b, o, none⟩ = some v := by
  obtain ⟨y, rfl⟩ := hx
  rw [cell_ext hb]
  exact h
theorem lt_x {w w' : World} {b : Nat} (hb : b < w.heap.size) (hx : ∃ y, w' = ext w y) : b < w'.heap.size := Nat.lt_of_lt_of_le hb (size_of_ext hx)
set_option maxRecDepth 100000 in
set_option maxHeartbeats 16000000 in
theorem FullReduction_any {A B C D : Option Addr} {c e g f1 : Nat} {d : Dbd} {q : Qd} {ps : List Int} {w : World} (hd : WDb d) (h1 : RV 3 vTb w A d) (hb : BQ q) (h2 : vQ w [.int .i64 q.1, .slice B q.2.1.length e, .slice C q.2.2.length g] q) (hp : ps.length ≤ 100000000) (h3 : RI w D ps) :
    Calls Tryz.prog 12 #[.agg #[.slice A d.length c], .agg #[.int .i64 q.1, .slice B q.2.1.length e, .slice C q.2.2.length g], .agg #[.slice D ps.length f1]] w (FrP (fullR d q ps) w) := by
  have HD := Lib.hid hd
  have HB := Lib.hid hb
  have HV := Lib.hid h2
  obtain ⟨t, ht⟩ : ∃ t, (iqfB d q && ivjB q ps) = t := ⟨_, rfl⟩
  have HT := Lib.hid ht
  have HF0 := Lib.hid (fun (h : t = false) => show fullR d q ps = none by
    unfold fullR
    rw [if_neg]
    rw [← Bool.and_eq_true, ht, h]
    simp)
  clear hd hb h2 ht
  go_enter Tryz.func12, Tryz.ntmps12
  go_upto_region 1 with fail
  refine wp_name ?_
  intro W hW
  have xW : ∃ y, W = ext w y := by rw [hW.out]; exact (by refine x'z ?_; repeat (with_reducible (first | exact x'a _ _ | exact x'b _ | exact x'c (by assumption) | refine x'd ?_ (by assumption) | refine x'e ?_ _ | refine x'f ?_ _ | refine x'g ?_ | refine x'h ?_ ?_ _ | refine x'i ?_ _ | refine x'j ?_ | refine x'k ?_ _ | refine x'l ?_ _ _ | refine x'm ?_ | assumption | (refine x'n ?_; omega) | omega)))
  have PW : BoxAt W w.heap.size #[.slice A d.length c] := by rw [hW.out]; refine ⟨?_, fun j => ?_, fun j => ?_⟩ <;> go_simp
  have QW : BoxAt W (w.heap.size + 1) #[.int .i64 q.1, .slice B q.2.1.length e, .slice C q.2.2.length g] := by rw [hW.out]; refine ⟨?_, fun j => ?_, fun j => ?_⟩ <;> go_simp
  have TW : BoxAt W (w.heap.size + 1 + 1) #[.slice D ps.length f1] := by rw [hW.out]; refine ⟨?_, fun j => ?_, fun j => ?_⟩ <;> go_simp
  obtain ⟨lp, p0, fp⟩ := bx1 PW
  obtain ⟨lq, q0, q1, q2, fq⟩ := box3 QW
  obtain ⟨lt, r0, ft⟩ := bx1 TW
  have hWw := TW.1
  clear hW
  cases t with
  | false =>
    have HZ := Lib.hid (HF0.out rfl)
    go_wp2_with (go_at_call 39; refine (treeFits_any HD.out (h1.toExt xW) HB.out (VD.toExt HV.out xW) hp (h3.toExt xW)).mono ?_; rintro e w1 ⟨rfl, hx1⟩; rw [HT.out])
    refine bodyPost_ret (v := .tuple #[.slice none 0 0, .bool false]) (by simp [results, Tryz.results12, go_sem, *]) rfl ?_
    rw [HZ.out]
    exact ⟨_, [], rfl, trans_ext xW hx1, SV.nil, by simp, by simp⟩
  | true =>
    obtain ⟨hq1, hq2⟩ := Bool.and_eq_true_iff.1 HT.out
    have hjt : jtB q.1.toNat q.2.1 ps = true := by unfold ivjB at hq2; rw [Bool.and_eq_true] at hq2; exact hq2.2
    obtain ⟨r, hY⟩ := yan hq1 hjt
    have HZ := Lib.hid (show fullR d q ps = some (fullD d q (prs ps (upL ps))) by unfold fullR; rw [if_pos ⟨hq1, hq2⟩])
    have HORD := Lib.hid hY.ord
    have HUI := Lib.hid hY.ord.ui
    have hnn := hY.n
    have hn4 := hY.n4
    have hn1 := hY.n1
    have HPI := Lib.hid (show ∀ x ∈ ps, x < (ps.length : Int) from fun x hx => by
      have htb : treeB ps = true := by unfold jtB at hjt; rw [Bool.and_eq_true, Bool.and_eq_true] at hjt; exact hjt.1.2
      have := (treeB_in htb x hx).2
      omega)
    have HUL := Lib.hid (show (upL ps).length = ps.length by unfold upL; rw [List.length_reverse]; exact hY.ord.bl)
    have HAX := Lib.hid (show ∀ x ∈ q.2.1, x.2.length ≤ 1000000000 from fun x hx => by have := (HB.out.2.1.each x hx).2; omega)
    have HPN := Lib.hid hnn
    have HAV := Lib.hid (vAts_get (vQ_get HV.out).1).2
    clear hq1 hq2 hjt hY hnn
    go_upto_region 4 with (go_at_call 39; refine (treeFits_any HD.out (h1.toExt xW) HB.out (VD.toExt HV.out xW) hp (h3.toExt xW)).mono ?_; rintro e w1 ⟨rfl, hx1⟩; rw [HT.out]; obtain ⟨lq1, q10, q11, q12, fq1⟩ := box3 (QW.toExt hx1))
    obtain ⟨n, hn⟩ : ∃ n, q.2.1.length = n := ⟨_, rfl⟩
    have HQN := Lib.hid hn
    have HPN := Lib.hid (show ps.length = n by rw [HPN.out, hn])
    rw [hn] at hn4 hn1 q11
    obtain ⟨bt, ot, rfl⟩ := h3.pl (by rw [HPN.out]; omega)
    have HPT := Lib.hid h3
    clear h3
    have hxw1 := trans_ext xW hx1
    have hzw := size_of_ext xW
    have hzw1 := size_of_ext hx1
    clear hn lp p0 fp lq q0 q1 q2 fq lt r0 ft
    go_wp2_with fail
    clear lq1 q10 q11 q12 fq1
    go_loopw [8, 25] (fun v i wr => ∃ (k : Nat) (F : List Nat), i = .int .i64 k ∧ k ≤ n ∧ Hid (SV 69 3 sVR wr v ((q.2.1.take k).map (atomVR d)) F) ∧ Hid F.Nodup ∧ Hid (∀ b ∈ F, W.heap.size ≤ b) ∧ ∃ y, wr = ext W y) (fun _ i _ => n - (intOf i).toNat)
    case atStart => exact ⟨0, [], rfl, by omega, Lib.hid SV.nil, Lib.hid (by simp), Lib.hid (by simp), hx1⟩
    case round =>
      obtain ⟨k, F, rfl, hk, HS, HN, HF, hy⟩ := hrel
      have hyw := trans_ext xW hy
      have hzy := size_of_ext hy
      by_cases hlt : k < n
      · have hlk : ((q.2.1.take k).map (atomVR d)).length = k := by rw [List.length_map, List.length_take, HQN.out]; omega
        obtain ⟨A8, c8, rfl, _, _⟩ := HS.out.form
        have hkq : k < q.2.1.length := by rw [HQN.out]; exact hlt
        have HT1 := Lib.hid (show (q.2.1.take (k + 1)).map (atomVR d) = (q.2.1.take k).map (atomVR d) ++ [atomVR d q.2.1[k]] by rw [List.take_succ_eq_append_getElem hkq, List.map_append]; rfl)
        have hx9 := HAX.out _ (List.getElem_mem hkq)
        obtain ⟨b, o, A1, c1, rfl, hbb, hc0, hc1, hvx⟩ := (HAV.out.toExt hyw).atA hkq
        obtain ⟨x, hx⟩ : ∃ x, q.2.1[k] = x := ⟨_, rfl⟩
        rw [hx] at hc0 hc1 hvx HT1 hx9
        obtain ⟨s, xs⟩ := x
        dsimp only at hc0 hc1 hvx hx9
        have HVX := Lib.hid hvx
        have HLK := Lib.hid hlk
        rw [hlk]
        clear hx hvx hlk hkq
        go_upto_region 7 with fail
        refine wp_name ?_
        intro W6 hW
        have x6 : ∃ y, W6 = ext wr y := by rw [hW.out]; exact (by refine x'z ?_; repeat (with_reducible (first | exact x'a _ _ | exact x'b _ | exact x'c (by assumption) | refine x'd ?_ (by assumption) | refine x'e ?_ _ | refine x'f ?_ _ | refine x'g ?_ | refine x'h ?_ ?_ _ | refine x'i ?_ _ | refine x'j ?_ | refine x'k ?_ _ | refine x'l ?_ _ _ | refine x'm ?_ | assumption | (refine x'n ?_; omega) | omega)))
        have B10 : BoxAt W6 wr.heap.size #[.string s, .slice A1 xs.length c1] := by rw [hW.out]; exact (by repeat (with_reducible (first | assumption | exact BoxAt.new _ _ _ | apply BoxAt.set2 | refine BoxAt.set2' ?_ (by omega) | apply BoxAt.setP0 | apply BoxAt.setP1 | refine BoxAt.setO ?_ (by omega) | refine BoxAt.alloc ?_ _ | refine BoxAt.drew ?_ | refine BoxAt.toExt ?_ (by assumption))))
        have HS6 : Hid (SV 69 3 sVR W6 (.slice A8 k c8) ((q.2.1.take k).map (atomVR d)) F) := Lib.hid (by have h := HS.out.toExt x6; rw [HLK.out] at h; exact h)
        have hyw6 := trans_ext hyw x6
        have hyW6 := trans_ext hy x6
        have hz6 := size_of_ext hyW6
        obtain ⟨lp, p0, fp⟩ := bx1 (PW.toExt hyW6)
        obtain ⟨lb, k0, k1, fb⟩ := bx2 B10
        have hVX6 := HVX.out.toExt x6
        clear hW x6 B10 hc0 hc1 hbb
        go_wp2_with (first
          | (go_at_call 40; refine (AtomRelation_x HD.out (h1.toExt hyw6) hx9 hVX6).mono ?_; rintro e w7 ⟨u0, u1, u2, F7, rfl, hx7, hS7, hN7, hF7⟩; obtain ⟨A71, a71, A72, a72, rfl, rfl, rfl⟩ := sVR_form hS7; have HS7 := Lib.hid (HS6.out.toExt hx7))
          | (at_builtin; refine wpList_appN (E := sVR) (d := atomVR d (s, xs)) (G := F7) rfl _ _ _ rfl tVR rfl rfl rfl (by simp) hS7 rfl (by simp [Value.oneCell']) HS7.out (nodup_more HN.out hN7 HS6.out.lt hF7) (by rw [HLK.out]; omega) (by omega) ?_; intro v8 w8 F8 hS8 hC8 hN8 hF8; obtain ⟨A9, c9, rfl, _, _⟩ := hS8.form; rw [show ((q.2.1.take k).map (atomVR d) ++ [atomVR d (s, xs)]).length = k + 1 by rw [List.length_append, HLK.out]; rfl] at hS8 ⊢))
        have hz7 := size_of_ext hx7
        rw [← HT1.out] at hS8
        have HS8 := Lib.hid hS8
        have HN8 := Lib.hid hN8
        have HF8 := Lib.hid (show ∀ b ∈ F8, W.heap.size ≤ b from fun b hb => by
          rcases hF8 b hb with h | h | h
          · exact HF.out b h
          · have := hF7 b h; omega
          · omega)
        exact ⟨⟨k + 1, F8, by go_num, by omega, HS8, HN8, HF8, hC8.isExt (trans_ext hyW6 hx7) HF.out⟩, by simp [intOf]; omega⟩
      · have e0 : k = n := by omega
        have HDZ := Lib.hid (full_steps d q ps (upL ps))
        have HOK0 := Lib.hid (OkDs.start d q.2.1)
        have hS0 := HS.out
        rw [e0, List.take_of_length_le (show q.2.1.length ≤ n by rw [HQN.out]; omega)] at hS0
        have HS0 := Lib.hid hS0
        clear hS0
        have HLD0 := Lib.hid (show (q.2.1.map (atomVR d)).length = n by rw [List.length_map, HQN.out])
        obtain ⟨D0, hD0⟩ : ∃ D, q.2.1.map (atomVR d) = D := ⟨_, rfl⟩
        rw [hD0] at HS0 HLD0 HOK0 HDZ
        obtain ⟨ga, c8, hv8, hgF, _, _⟩ := HS0.out.block (by intro h; have h2 := HLD0.out; rw [h] at h2; simp at h2; omega)
        rw [HLD0.out] at hv8
        subst hv8
        obtain ⟨lt, r0, ft⟩ := bx1 (TW.toExt hy)
        have hnk : ¬ ((k : Int) < (n : Int)) := by omega
        have hgaW := HF.out ga hgF
        have hgar := HS0.out.lt ga hgF
        clear e0 hD0 HS hgF
        go_wp2_with fail
        refine (upwards_any (by rw [HPN.out]; exact hn4) HORD.out (HPT.out.toExt hyw)).mono ?_
        rintro e w9 ⟨vo, Fo, rfl, hx9, hSo, hFo⟩
        obtain ⟨o, ho⟩ : ∃ o, upL ps = o := ⟨_, rfl⟩
        rw [ho] at hSo HUI HUL HDZ
        have HOE := Lib.hid ho
        have HLO := Lib.hid (show o.length = n by rw [HUL.out, HPN.out])
        obtain ⟨go, co, hvo, hgoF, _, _⟩ := hSo.block (by intro h; have h2 := HLO.out; rw [h] at h2; simp at h2; omega)
        rw [HLO.out] at hvo
        subst hvo
        have HSO := Lib.hid hSo
        have HFO := Lib.hid (show ∀ b ∈ Fo, b ≠ ga from fun b hb e => by have := hFo b hb; omega)
        have HSA := Lib.hid (HS0.out.toExt hx9)
        have HX9 := Lib.hid (trans_ext hy hx9)
        have hgo9 := hSo.lt go hgoF
        have hgow := hFo go hgoF
        have hz9 := size_of_ext hx9
        clear hSo hFo hgoF ho lt r0 ft hnk HS0 hx9
        go_wp2_with fail
        obtain ⟨FA, hFA⟩ : ∃ G, F = G := ⟨_, rfl⟩
        go_loopw [40] (fun i wr => ∃ (k : Nat) (F : List Nat), i = .int .i64 k ∧ k ≤ n ∧ Hid (SV 69 3 sVR wr (.slice (some ⟨ga, 0, none⟩) n c8) (upD ps o k D0) F) ∧ Hid F.Nodup ∧ Hid (∀ b ∈ F, W.heap.size ≤ b) ∧ Hid (Chg [ga] w9 wr)) (fun i _ => n - (intOf i).toNat)
        case atStart => exact ⟨0, F, rfl, by omega, HSA, HN, HF, Lib.hid (Chg.refl _ _)⟩
        case round =>
          obtain ⟨k, F, rfl, hk, HS, HN, HF, HC⟩ := hrel
          have hyr : ∃ y, wr = ext W y := HC.out.isExt HX9.out (by simp; exact hgaW)
          have hzr := HC.out.size
          have hzW := size_of_ext hyr
          obtain ⟨lt, r0, ft⟩ := bx1 (TW.toExt hyr)
          have HSOr := Lib.hid (HSO.out.chg HC.out (fun b hb h => HFO.out b hb (List.mem_singleton.1 h)))
          by_cases hlt : k < n
          · have cok := cells_of HSOr.out (k := k) (by rw [HLO.out]; omega)
            obtain ⟨hi0, hi1⟩ := HUI.out (o.getD (k) 0) (mem_getD (by rw [HLO.out]; omega))
            rw [HPN.out] at hi1
            obtain ⟨i, hi⟩ : ∃ i : Nat, o.getD (k) 0 = (i : Int) := ⟨(o.getD (k) 0).toNat, by omega⟩
            rw [hi] at cok hi0 hi1
            have hil : i < n := by omega
            have hips : i < ps.length := by rw [HPN.out]; exact hil
            have hoi : o[k]'(by rw [HLO.out]; omega) = (i : Int) := by rw [← hi, getDl _ _ (show k < o.length by rw [HLO.out]; omega)]
            obtain ⟨hbt, cps⟩ := (HPT.out.toExt (trans_ext xW hyr)).atJ (k := i) (by rw [HPN.out]; exact hil)
            obtain ⟨p, hp⟩ : ∃ p, ps.getD i 0 = p := ⟨_, rfl⟩
            rw [hp] at cps
            have hgor : go < wr.heap.size := by omega
            have hi9 := hi
            clear hi hi0
            by_cases hp0 : 0 ≤ p
            · obtain ⟨pn, hpn⟩ : ∃ pn : Nat, p = (pn : Int) := ⟨p.toNat, by omega⟩
              subst hpn
              have hpl : pn < n := by have h9 := HPI.out (ps.getD i 0) (mem_getD (by rw [HPN.out]; exact hil)); rw [hp, HPN.out] at h9; omega
              have HUPD := Lib.hid (upD_yes (ds := D0) (by rw [HLO.out]; exact hlt) hoi hp)
              have HOK := Lib.hid (upD_ok HOK0.out (by rw [HPN.out, HLD0.out]) HPI.out HUI.out k (by rw [HLO.out]; omega))
              have HLD := Lib.hid (show (upD ps o k D0).length = n by rw [upD_len, HLD0.out])
              clear hp hoi hi9
              obtain ⟨x, hx1, hx2, hbp, hbi⟩ := semi_at HOK.out (p := pn) (i := i) (by rw [HLD.out]; omega) (by rw [HLD.out]; omega)
              have HX1 := Lib.hid hx1
              have HX2 := Lib.hid hx2
              obtain ⟨Ap, ap, Bp, bp, cp0, cp1, cp2, hvp⟩ := vr_at HS.out HN.out (k := pn) (by rw [HLD.out]; omega)
              obtain ⟨Ai, ai, Bi, bi, ci0, ci1, ci2, hvi⟩ := vr_at HS.out HN.out (k := i) (by rw [HLD.out]; omega)
              obtain ⟨⟨⟨_, hu0⟩, hf0⟩, ⟨⟨_, hu1⟩, hf1⟩, ⟨⟨_, hu2⟩, hf2⟩, hgr⟩ := vr_cell HS.out HLD.out (k := pn) (by omega)
              obtain ⟨dp, hdp⟩ : ∃ x, (upD ps o k D0).getD pn zV = x := ⟨_, rfl⟩
              obtain ⟨di, hdi⟩ : ∃ x, (upD ps o k D0).getD i zV = x := ⟨_, rfl⟩
              rw [hdp] at cp0 cp1 cp2 hvp hbp
              rw [hdi] at ci0 ci1 ci2 hvi hbi
              have HX1 := Lib.hid (show semiR dp di = some x by rw [← hdp, ← hdi]; exact HX1.out)
              have HVP := Lib.hid hvp
              have HVI := Lib.hid hvi
              have HBP := Lib.hid hbp
              have HBI := Lib.hid hbi
              clear hx1 hx2 hvp hvi hbp hbi hdp hdi hu0 hu1 hu2 hf0 hf1 hf2
              go_upto_region 15 with fail
              go_region_law (first | (rw [if_pos (by simp [Region.wanted])]; go_wp2_with (go_at_call 42; (with_reducible refine (SemiJoin_any HBP.out (VD.toExt HVP.out ?_) HBI.out (VD.toExt HVI.out ?_)).mono ?_); (focus (exact (by repeat (with_reducible (first | exact refl_ext _ | exact alloc_ext _ _ | exact drew_ext _ | assumption | refine trans_ext ?_ (drew_ext _) | refine trans_ext ?_ (alloc_ext _ _) | refine trans_ext ?_ (by assumption)))))); (focus (exact (by repeat (with_reducible (first | exact refl_ext _ | exact alloc_ext _ _ | exact drew_ext _ | assumption | refine trans_ext ?_ (drew_ext _) | refine trans_ext ?_ (alloc_ext _ _) | refine trans_ext ?_ (by assumption)))))); rw [HX1.out]; rintro e w5 ⟨u0, u1, u2, F5, rfl, hx5, hS5, hN5, hF5⟩; rw [Option.getD_some] at hS5; obtain ⟨A5, a5, B5, b5, rfl, rfl, rfl⟩ := sVR_form hS5; have hxr5 : ∃ y, w5 = ext wr y := trans_ext (by repeat (with_reducible (first | exact refl_ext _ | exact alloc_ext _ _ | exact drew_ext _ | assumption | refine trans_ext ?_ (drew_ext _) | refine trans_ext ?_ (alloc_ext _ _) | refine trans_ext ?_ (by assumption)))) hx5; obtain ⟨⟨⟨y0, hu0⟩, hf0⟩, ⟨⟨y1, hu1⟩, hf1⟩, ⟨⟨y2, hu2⟩, hf2⟩, hg5⟩ := vr_cell (HS.out.toExt hxr5) HLD.out (k := pn) (by omega) ; skip)))
              all_goals
                obtain ⟨F9, hS9, hC9, hN9, hF9⟩ := semi_put (W := W) (p := pn) HS.out HLD.out HN.out (by omega) hxr5 hS5 hN5 (fun b hb => Nat.le_trans (size_of_ext (trans_ext (by repeat (with_reducible (first | exact refl_ext _ | exact alloc_ext _ _ | exact drew_ext _ | assumption | refine trans_ext ?_ (drew_ext _) | refine trans_ext ?_ (alloc_ext _ _) | refine trans_ext ?_ (by assumption)))) (refl_ext _))) (hF5 b hb)) HF.out hzW
                rw [← HX2.out] at hS9
                have HS9 := Lib.hid hS9
                have HC9 := Lib.hid (HC.out.trans hC9 (fun x hx => .inl hx))
                have HN9 := Lib.hid hN9
                have HF9 := Lib.hid hF9
                clear hS9 hC9 hN9 hF9 hS5 hN5 hF5
                go_wp2_with fail
                exact ⟨⟨k + 1, F9, by go_num, by omega, Lib.hid (by rw [HUPD.out]; exact HS9.out), HN9, HF9, HC9⟩, by simp [intOf] <;> omega⟩
            · have HUPD := Lib.hid (upD_no (ds := D0) (by rw [HLO.out]; exact hlt) hoi (by rw [hp]; omega))
              clear hp hoi hi9
              go_wp2_with fail
              exact ⟨⟨k + 1, F, by go_num, by omega, Lib.hid (by rw [HUPD.out]; exact HS.out), HN, HF, HC⟩, by simp [intOf] <;> omega⟩
          · have e0 : k = n := by omega
            have hS0 := HS.out
            rw [e0] at hS0
            have HDZ1 := Lib.hid (show dnD ps o 0 (upD ps o n D0) = fullD d q (prs ps o) by rw [← HDZ.out, HLO.out])
            have HOK1 := Lib.hid (upD_ok HOK0.out (by rw [HPN.out, HLD0.out]) HPI.out HUI.out n (by rw [HLO.out]; omega))
            have HLD1 := Lib.hid (show (upD ps o n D0).length = n by rw [upD_len, HLD0.out])
            obtain ⟨D1, hD1⟩ : ∃ D, upD ps o n D0 = D := ⟨_, rfl⟩
            rw [hD1] at hS0 HDZ1 HOK1 HLD1
            have HS1 := Lib.hid (show SV 69 3 sVR wr (.slice (some ⟨ga, 0, none⟩) n c8) (dnD ps o n D1) F by rw [dnD_end (by rw [HLO.out]; omega)]; exact hS0)
            have HC1 := HC
            have hnk : ¬ ((k : Int) < (n : Int)) := by omega
            clear e0 hS0 hD1 HS HC
            go_wp2_with fail
            go_loopw [15] (fun i wr => ∃ (m : Nat) (F : List Nat), i = .int .i64 ((m : Int) - 1) ∧ m ≤ n ∧ Hid (SV 69 3 sVR wr (.slice (some ⟨ga, 0, none⟩) n c8) (dnD ps o m D1) F) ∧ Hid F.Nodup ∧ Hid (∀ b ∈ F, W.heap.size ≤ b) ∧ Hid (Chg [ga] w9 wr)) (fun i _ => (intOf i + 1).toNat)
            case atStart => exact ⟨n, F, by go_num, Nat.le_refl _, HS1, HN, HF, HC1⟩
            case round =>
              obtain ⟨m, F, rfl, hm, HS, HN, HF, HC⟩ := hrel
              have hyr : ∃ y, wr = ext W y := HC.out.isExt HX9.out (by simp; exact hgaW)
              have hzr := HC.out.size
              have hzW := size_of_ext hyr
              obtain ⟨lt, r0, ft⟩ := bx1 (TW.toExt hyr)
              have HSOr := Lib.hid (HSO.out.chg HC.out (fun b hb h => HFO.out b hb (List.mem_singleton.1 h)))
              by_cases hlt : 0 < m
              · obtain ⟨k, rfl⟩ : ∃ k, m = k + 1 := ⟨m - 1, by omega⟩
                rw [show ((k + 1 : Nat) : Int) - 1 = (k : Int) by omega]
                have hkn : k < n := by omega
                have cok := cells_of HSOr.out (k := k) (by rw [HLO.out]; omega)
                obtain ⟨hi0, hi1⟩ := HUI.out (o.getD (k) 0) (mem_getD (by rw [HLO.out]; omega))
                rw [HPN.out] at hi1
                obtain ⟨i, hi⟩ : ∃ i : Nat, o.getD (k) 0 = (i : Int) := ⟨(o.getD (k) 0).toNat, by omega⟩
                rw [hi] at cok hi0 hi1
                have hil : i < n := by omega
                have hips : i < ps.length := by rw [HPN.out]; exact hil
                have hoi : o[k]'(by rw [HLO.out]; omega) = (i : Int) := by rw [← hi, getDl _ _ (show k < o.length by rw [HLO.out]; omega)]
                obtain ⟨hbt, cps⟩ := (HPT.out.toExt (trans_ext xW hyr)).atJ (k := i) (by rw [HPN.out]; exact hil)
                obtain ⟨p, hp⟩ : ∃ p, ps.getD i 0 = p := ⟨_, rfl⟩
                rw [hp] at cps
                have hgor : go < wr.heap.size := by omega
                have hi9 := hi
                clear hi hi0
                go_upto_region 20 with fail
                refine wp_region_ext (by kernel_rfl) (by kernel_rfl) ?_
                repeat (go_big_quiet_step (fail))
                refine wpQuiet_nil ?_
                rintro _ ⟨zz, rfl⟩
                have hz2 : ∃ y, ext wr zz = ext wr y := ⟨zz, rfl⟩
                obtain ⟨wr2, hwr2⟩ : ∃ W, ext wr zz = W := ⟨_, rfl⟩
                rw [hwr2] at hz2 ⊢
                have HS := Lib.hid (HS.out.toExt hz2)
                have HC := Lib.hid (HC.out.trans0 hz2)
                have hzW : W.heap.size ≤ wr2.heap.size := Nat.le_trans hzW (size_of_ext hz2)
                have cok := cells_of (HSOr.out.toExt hz2) (k := k) (by rw [HLO.out]; omega)
                rw [hi9] at cok
                have hgor : go < wr2.heap.size := Nat.lt_of_lt_of_le hgor (size_of_ext hz2)
                clear hwr2 lt r0 ft hbt cps
                by_cases hp0 : 0 ≤ p
                · obtain ⟨pn, hpn⟩ : ∃ pn : Nat, p = (pn : Int) := ⟨p.toNat, by omega⟩
                  subst hpn
                  have hpl : pn < n := by have h9 := HPI.out (ps.getD i 0) (mem_getD (by rw [HPN.out]; exact hil)); rw [hp, HPN.out] at h9; omega
                  have HUPD := Lib.hid (dnD_yes (ds := D1) (by rw [HLO.out]; exact hkn) hoi hp)
                  have HOK := Lib.hid (dnD_ok HOK1.out (by rw [HPN.out, HLD1.out]) HPI.out HUI.out (n - (k + 1)) (k + 1) (by rw [HLO.out]; omega))
                  have HLD := Lib.hid (show (dnD ps o (k + 1) D1).length = n by rw [dnD_len, HLD1.out])
                  clear hp hoi hi9
                  obtain ⟨x, hx1, hx2, hbp, hbi⟩ := semi_at HOK.out (p := i) (i := pn) (by rw [HLD.out]; omega) (by rw [HLD.out]; omega)
                  have HX1 := Lib.hid hx1
                  have HX2 := Lib.hid hx2
                  obtain ⟨Ap, ap, Bp, bp, cp0, cp1, cp2, hvp⟩ := vr_at HS.out HN.out (k := i) (by rw [HLD.out]; omega)
                  obtain ⟨Ai, ai, Bi, bi, ci0, ci1, ci2, hvi⟩ := vr_at HS.out HN.out (k := pn) (by rw [HLD.out]; omega)
                  obtain ⟨⟨⟨_, hu0⟩, hf0⟩, ⟨⟨_, hu1⟩, hf1⟩, ⟨⟨_, hu2⟩, hf2⟩, hgr⟩ := vr_cell HS.out HLD.out (k := i) (by omega)
                  obtain ⟨dp, hdp⟩ : ∃ x, (dnD ps o (k + 1) D1).getD i zV = x := ⟨_, rfl⟩
                  obtain ⟨di, hdi⟩ : ∃ x, (dnD ps o (k + 1) D1).getD pn zV = x := ⟨_, rfl⟩
                  rw [hdp] at cp0 cp1 cp2 hvp hbp
                  rw [hdi] at ci0 ci1 ci2 hvi hbi
                  have HX1 := Lib.hid (show semiR dp di = some x by rw [← hdp, ← hdi]; exact HX1.out)
                  have HVP := Lib.hid hvp
                  have HVI := Lib.hid hvi
                  have HBP := Lib.hid hbp
                  have HBI := Lib.hid hbi
                  clear hx1 hx2 hvp hvi hbp hbi hdp hdi hu0 hu1 hu2 hf0 hf1 hf2
                  go_upto_region 22 with fail
                  go_region_law (first | (rw [if_pos (by simp [Region.wanted])]; go_wp2_with (go_at_call 42; (with_reducible refine (SemiJoin_any HBP.out (VD.toExt HVP.out ?_) HBI.out (VD.toExt HVI.out ?_)).mono ?_); (focus (exact (by repeat (with_reducible (first | exact refl_ext _ | exact alloc_ext _ _ | exact drew_ext _ | assumption | refine trans_ext ?_ (drew_ext _) | refine trans_ext ?_ (alloc_ext _ _) | refine trans_ext ?_ (by assumption)))))); (focus (exact (by repeat (with_reducible (first | exact refl_ext _ | exact alloc_ext _ _ | exact drew_ext _ | assumption | refine trans_ext ?_ (drew_ext _) | refine trans_ext ?_ (alloc_ext _ _) | refine trans_ext ?_ (by assumption)))))); rw [HX1.out]; rintro e w5 ⟨u0, u1, u2, F5, rfl, hx5, hS5, hN5, hF5⟩; rw [Option.getD_some] at hS5; obtain ⟨A5, a5, B5, b5, rfl, rfl, rfl⟩ := sVR_form hS5; have hxr5 : ∃ y, w5 = ext wr2 y := trans_ext (by repeat (with_reducible (first | exact refl_ext _ | exact alloc_ext _ _ | exact drew_ext _ | assumption | refine trans_ext ?_ (drew_ext _) | refine trans_ext ?_ (alloc_ext _ _) | refine trans_ext ?_ (by assumption)))) hx5; obtain ⟨⟨⟨y0, hu0⟩, hf0⟩, ⟨⟨y1, hu1⟩, hf1⟩, ⟨⟨y2, hu2⟩, hf2⟩, hg5⟩ := vr_cell (HS.out.toExt hxr5) HLD.out (k := i) (by omega) ; have cok5 := cell_x cok hgor hxr5; have hgo5 := lt_x hgor hxr5)))
                  all_goals
                    obtain ⟨F9, hS9, hC9, hN9, hF9⟩ := semi_put (W := W) (p := i) HS.out HLD.out HN.out (by omega) hxr5 hS5 hN5 (fun b hb => Nat.le_trans (size_of_ext (trans_ext (by repeat (with_reducible (first | exact refl_ext _ | exact alloc_ext _ _ | exact drew_ext _ | assumption | refine trans_ext ?_ (drew_ext _) | refine trans_ext ?_ (alloc_ext _ _) | refine trans_ext ?_ (by assumption)))) (refl_ext _))) (hF5 b hb)) HF.out hzW
                    rw [← HX2.out] at hS9
                    have HS9 := Lib.hid hS9
                    have HC9 := Lib.hid (HC.out.trans hC9 (fun x hx => .inl hx))
                    have HN9 := Lib.hid hN9
                    have HF9 := Lib.hid hF9
                    clear hS9 hC9 hN9 hF9 hS5 hN5 hF5
                    go_wp2_with fail
                    exact ⟨⟨k, F9, by go_num, by omega, Lib.hid (by rw [HUPD.out]; exact HS9.out), HN9, HF9, HC9⟩, by simp [intOf] <;> omega⟩
                · have HUPD := Lib.hid (dnD_no (ds := D1) (by rw [HLO.out]; exact hkn) hoi (by rw [hp]; omega))
                  clear hp hoi hi9
                  go_wp2_with fail
                  exact ⟨⟨k, F, by go_num, by omega, Lib.hid (by rw [HUPD.out]; exact HS.out), HN, HF, HC⟩, by simp [intOf] <;> omega⟩
              · obtain rfl : m = 0 := by omega
                have HS8 := Lib.hid (show SV 69 3 sVR wr (.slice (some ⟨ga, 0, none⟩) n c8) (fullD d q (prs ps o)) F by rw [← HDZ1.out]; exact HS.out)
                go_wp2_with fail
                refine bodyPost_ret (v := .tuple #[.slice (some ⟨ga, 0, none⟩) n c8, .bool true]) (by simp [results, Tryz.results12, go_sem, *]) rfl ?_
                rw [HZ.out, HOE.out]
                exact ⟨_, F, rfl, trans_ext xW hyr, HS8.out, HN.out, fun b hb => by have := HF.out b hb; omega⟩
end Go.Proofs.YtfigcfajkilhiaaGreat
