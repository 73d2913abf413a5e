/- Marks written into lists of atoms and into queries. -/
import Derived.Test.YtedkmccfibaboaaQuery
namespace Go.Proofs.Ytedkmccfibaboaa
open Go.RowKit

def mkA (k : Int) (x : At) : At × Int := ((mtx k, marks (k + 1) x.2.length), k + 1 + x.2.length)
theorem mkA_sum (k : Int) (xs : List At) : (mkN mkA k xs).2 = k + ((xs.map fun x => 1 + x.2.length).sum : Nat) := mkN_sum (fun k x => by simp [mkA]; omega) xs k
theorem mkA_bd {k : Int} {xs : List At} (h0 : 0 ≤ k) (hs : k + ((xs.map fun x => 1 + x.2.length).sum : Nat) ≤ 99000000000) (i : Nat) : 0 ≤ (mkN mkA k (xs.take i)).2 ∧ (mkN mkA k (xs.take i)).2 ≤ 99000000000 := by
  rw [mkA_sum]
  have := sum_take_le (c := fun x : At => 1 + x.2.length) xs i
  omega
theorem mkA_tot : ∀ (d : List At), (d.map fun x => 1 + x.2.length).sum ≤ d.length + (d.map cAt).sum
  | [] => by simp
  | x :: d => by
    have := mkA_tot d
    simp only [List.map_cons, List.sum_cons, List.length_cons, cAt] at this ⊢
    omega
theorem sl_blk {g g' n n' c c' : Nat} (h : Value.slice (some ⟨g, 0, none⟩) n c = .slice (some ⟨g', 0, none⟩) n' c') : g = g' := by
  injection h with e1 _ _
  injection e1 with e1
  injection e1 with e1 _ _
theorem sAt_get {w : World} {c : List Value} {d : At} {F : List Nat} (h : sAt w c d F) : ∃ v, c = [.string d.1, v] ∧ SV 3 1 sI w v d.2 F := by
  obtain ⟨c0, c1, F0, F1, e0, h0, ⟨h1, f1⟩, ⟨v, rfl, h3⟩, e4⟩ := h
  subst h1 f1
  refine ⟨v, by rw [e0]; rfl, by rw [e4]; simpa using h3⟩
theorem sAt_mk {w : World} {s : ByteArray} {xs : List Int} {v : Value} {F : List Nat} (h : SV 3 1 sI w v xs F) : sAt w [.string s, v] (s, xs) F :=
  ⟨[.string s], [v], [], F, rfl, rfl, ⟨rfl, rfl⟩, ⟨v, rfl, h⟩, rfl⟩
set_option maxHeartbeats 4000000 in
theorem markAtomS_any {v : Value} {xs : List At} {F : List Nat} {k0 : Int} {w : World} (hx : xs.length ≤ 1000000000) (hxl : ∀ x ∈ xs, x.2.length ≤ 1000000000) (hS : SV 43 2 sAt w v xs F) (hN : F.Nodup) (h0 : 0 ≤ k0) (hk0 : k0 + ((xs.map fun x => 1 + x.2.length).sum : Nat) ≤ 99000000000) :
    Calls Try.prog 27 #[v, .int .i64 k0] w fun e w' => e = .returned (.int .i64 (mkN mkA k0 xs).2) ∧ SV 43 2 sAt w' v (mkN mkA k0 xs).1 F ∧ Chg F w w' := by
  have Hxl := Lib.hid hxl
  have HN := Lib.hid hN
  have HB := Lib.hid (mkA_bd h0 hk0)
  clear hxl hN hk0
  obtain ⟨A, cap, rfl, _, _⟩ := hS.form
  go_enter Try.func27, Try.ntmps27
  go_wp2
  go_loopw [1, 5] (fun m i wr => ∃ k : Nat, i = .int .i64 k ∧ m = .int .i64 (mkN mkA k0 (xs.take k)).2 ∧ k ≤ xs.length ∧ SV 43 2 sAt wr (.slice A xs.length cap) ((mkN mkA k0 (xs.take k)).1 ++ xs.drop k) F ∧ Chg F w wr) (fun _ i _ => xs.length - (intOf i).toNat)
  case atStart => exact ⟨0, rfl, by simp [mkN], by omega, by simpa [mkN] using hS, Chg.refl F w⟩
  case round =>
    obtain ⟨k, rfl, rfl, hk, hSk, hC⟩ := hrel
    have hlen : ((mkN mkA k0 (xs.take k)).1 ++ xs.drop k).length = xs.length := by simp; omega
    by_cases hlt : k < xs.length
    · obtain ⟨g, cap', hv, hgF, _, _⟩ := hSk.block (by intro e; rw [e] at hlen; simp at hlen; omega)
      rw [hlen] at hv
      injection hv with hA _ hc
      subst hA hc
      have hle := Hxl.out xs[k] (List.getElem_mem hlt)
      obtain ⟨b1, b2⟩ := HB.out k
      have hst := mk_set (mk := mkA) (k := k0) hlt
      have HT := Lib.hid (mkN_take (mk := mkA) (k := k0) hlt)
      obtain ⟨m, hm⟩ : ∃ m, (mkN mkA k0 (xs.take k)).2 = m := ⟨_, rfl⟩
      obtain ⟨L, hL⟩ : ∃ L, (mkN mkA k0 (xs.take k)).1 ++ xs.drop k = L := ⟨_, rfl⟩
      rw [hm] at b1 b2 hst ⊢
      have HM := Lib.hid hm
      obtain ⟨x, hx⟩ : ∃ x, xs[k] = x := ⟨_, rfl⟩
      have HG : Hid (∀ h : k < L.length, L[k] = x) := Lib.hid (by subst hL; intro h; rw [← hx]; exact mk_get hlt h)
      rw [hL] at hst hSk hlen
      rw [hx] at hle hst
      have HX := Lib.hid hx
      have HS := Lib.hid hst
      have HL := Lib.hid hlen
      have hSk := Lib.hid hSk
      clear hm hL hst hlen hx
      go_upto_region 5 with (go_at_call 53; refine (markText_any (by omega)).mono ?_; rintro e w2 ⟨rfl, hx2⟩; have hS2 := hSk.out.toExt hx2; obtain ⟨g2, cap2, c2, Fk2, hv2, hg2, hgF2, hgk2, hsub2, hNk2, hcl2, hcell2, hfz2, hE2, _, hup2⟩ := hS2.at HN.out (k := k) (by rw [HL.out]; omega); obtain rfl := sl_blk hv2; clear hv2; obtain ⟨v2, rfl, hV2⟩ := sAt_get hE2; have hc20 := hcell2 0 (by simp); have hc21 := hcell2 1 (by simp); simp only [Nat.add_zero, List.getElem_cons_zero, List.getElem_cons_succ] at hc20 hc21; have Hup := Lib.hid hup2; have Hsub := Lib.hid hsub2; clear hcell2 hup2 hsub2 hcl2 hS2)
      refine wp_name ?_
      intro w3 hw3
      have hk2 : k < L.length := by rw [HL.out]; exact hlt
      have hgx := HG.out hk2
      rw [hgx] at hV2
      obtain ⟨hS3, hC3⟩ := Hup.out 0 (.string (mtx m)) (mtx m, x.2) (by omega) (show sAt w2 [.string (mtx m), v2] (mtx m, x.2) Fk2 from sAt_mk hV2)
      rw [Nat.add_zero, ← hw3.out] at hS3 hC3
      have hC3w := hC3
      obtain ⟨g3, cap3, c3, Fk3, hv3, hg3, hgF3, hgk3, hsub3, hNk3, hcl3, hcell3, hfz3, hE3, hup3, _⟩ := hS3.at HN.out (k := k) (by simpa using hk2)
      obtain rfl := sl_blk hv3
      clear hv3
      rw [List.getElem_set_self] at hE3
      obtain ⟨v3, rfl, hV3⟩ := sAt_get hE3
      have hc31 := hcell3 1 (by simp)
      simp only [List.getElem_cons_zero, List.getElem_cons_succ] at hc31
      dsimp only at hV3
      have Hup3 := Lib.hid hup3
      have Hsub3 := Lib.hid hsub3
      have HgF := Lib.hid hgF
      have HC3 := Lib.hid hC3
      clear hcell3 hup3 hsub3 hcl3 hS3 hC3w hC3 hw3 hc20 hc21 Hup hgx hE3 hE2 hfz2 hfz3 hV2
      go_wp2_with (go_at_call 28; refine (markIntS_any hle hV3 (by omega) (by omega)).mono ?_; rintro e w4 ⟨rfl, hS4, hC4⟩)
      have h5 := Hup3.out w4 (mtx m, marks (m + 1) x.2.length) (sAt_mk hS4) hC4
      rw [List.set_set] at h5
      have e3 : L.set k (mtx m, marks (m + 1) x.2.length) = (mkN mkA k0 (xs.take (k + 1))).1 ++ xs.drop (k + 1) := HS.out
      have e4 : (mkN mkA k0 (xs.take (k + 1))).2 = m + 1 + x.2.length := by rw [HT.out, HM.out, HX.out]; rfl
      exact ⟨⟨k + 1, by go_num, by rw [e4], by omega, by rw [← e3]; exact h5, ((Chg.trans0 hC hx2).trans HC3.out (fun y hy => .inl (by rw [List.mem_singleton.1 hy]; exact HgF.out))).trans hC4 (fun y hy => .inl (Hsub3.out y hy))⟩, by simp [intOf]; omega⟩
    · go_wp2
      go_ret
      have e : k = xs.length := by omega
      subst e
      rw [List.take_length] at hSk ⊢
      exact ⟨rfl, by rwa [List.drop_length, List.append_nil] at hSk, hC⟩
theorem markAtomS_d {v : Value} {d : List At} {F : List Nat} {k0 : Int} {w : World} (hb : BAts d) (h : sAts w [v] d F) (hN : F.Nodup) (h0 : 0 ≤ k0) (hk0 : k0 ≤ 90000000000) :
    Calls Try.prog 27 #[v, .int .i64 k0] w fun e w' => ∃ k', e = .returned (.int .i64 k') ∧ Hid ((mkN mkA k0 d).2 = k') ∧ k0 ≤ k' ∧ k' ≤ k0 + 3000000 ∧ sAts w' [v] (mkN mkA k0 d).1 F ∧ Chg F w w' := by
  have hm := mkA_tot d
  have hb1 := hb.1
  have hb2 := hb.2
  obtain ⟨v', e, h⟩ := h
  injection e with e
  subst e
  refine (markAtomS_any (Nat.le_trans hb.1 (by omega)) (fun x hx => Nat.le_trans (hb.each x hx).2 (by omega)) h hN h0 (by omega)).mono ?_
  rintro e w' ⟨h1, h2, h3⟩
  refine ⟨_, h1, Lib.hid rfl, ?_, ?_, ⟨_, rfl, h2⟩, h3⟩ <;> (rw [mkA_sum]; omega)
def mkQ (k : Int) (d : Qd) : Qd × Int := ((d.1, (mkN mkA k d.2.1).1, marks (mkN mkA k d.2.1).2 d.2.2.length), (mkN mkA k d.2.1).2 + d.2.2.length)
theorem sQ_get {w : World} {v0 v1 v2 : Value} {d : Qd} {F : List Nat} (h : sQ w [v0, v1, v2] d F) : ∃ F1 F2, F = F1 ++ F2 ∧ v0 = .int .i64 d.1 ∧ sAts w [v1] d.2.1 F1 ∧ SV 3 1 sI w v2 d.2.2 F2 := by
  obtain ⟨c0, c1, F0, F1, e0, h0, ⟨h1, f1⟩, ⟨c2, c3, F2, F3, e1, h2, ⟨u1, rfl, h3⟩, ⟨u2, rfl, h4⟩, e5⟩, e6⟩ := h
  subst e1 h1 f1 e5
  simp only [List.cons_append, List.nil_append, List.cons.injEq, and_true] at e0
  obtain ⟨rfl, rfl, rfl⟩ := e0
  exact ⟨F2, F3, by simpa using e6, rfl, ⟨_, rfl, h3⟩, h4⟩
set_option maxHeartbeats 1000000 in
theorem markQuery_d {v0 v1 v2 : Value} {d : Qd} {F : List Nat} {k0 : Int} {w : World} (hb : BQ d) (h : sQ w [v0, v1, v2] d F) (hN : F.Nodup) (h0 : 0 ≤ k0) (hk0 : k0 ≤ 80000000000) :
    Calls Try.prog 8 #[.agg #[v0, v1, v2], .int .i64 k0] w fun e w' => ∃ k', e = .returned (.int .i64 k') ∧ Hid ((mkQ k0 d).2 = k') ∧ k0 ≤ k' ∧ k' ≤ k0 + 6000000 ∧ sQ w' [v0, v1, v2] (mkQ k0 d).1 F ∧ Chg F w w' := by
  obtain ⟨hb1, hb2, hb3⟩ := hb
  have hq := h
  obtain ⟨F1, F2, rfl, rfl, hA, hO⟩ := sQ_get hq
  obtain ⟨N1, N2, N3⟩ := List.nodup_append.1 hN
  obtain ⟨A, a, B, b, _, rfl, rfl⟩ := sQ_form h
  have hm2 : d.2.2.length ≤ 1000000000 := by omega
  have hlt : ∀ b ∈ F1 ++ F2, b < w.heap.size := SMono.lt h
  have Hlt := Lib.hid hlt
  have HN3 := Lib.hid N3
  clear h hq hN hlt N3
  go_enter Try.func8, Try.ntmps8
  go_upto_region 1 with fail
  refine wp_name ?_
  intro W hW
  have xW : ∃ y, W = ext w y := by rw [hW.out]; exact (by refine Chg.isExt (F := []) ?_ (refl_ext _) (by simp); repeat (with_reducible (first | exact Chg.refl _ _ | exact Nat.le_refl _ | exact Chg.ofExt (by assumption) | refine Chg.trans0 ?_ (by assumption) | refine Chg.extS ?_ _ | refine Chg.alloc ?_ _ | refine Chg.drew ?_ | refine Chg.setCellE ?_ ?_ _ | refine le_addk ?_ _ | refine le_ext ?_ | refine le_alloc ?_ _ | refine le_setC ?_ _ _ | refine le_drew ?_ | assumption | (refine Nat.le_of_lt ?_; omega) | omega)))
  have BW0 : BoxAt W (w.heap.size) #[.int .i64 d.1, .slice A d.2.1.length a, .slice B d.2.2.length b] := by rw [hW.out]; refine ⟨?_, fun j => ?_, fun j => ?_⟩ <;> go_simp
  obtain ⟨lW0, bW0, fW0⟩ := BW0
  have cW0_0 : W.cell? ⟨w.heap.size, 0, none⟩ = some (.int .i64 d.1) := bW0 0
  have cW0_1 : W.cell? ⟨w.heap.size, 1, none⟩ = some (.slice A d.2.1.length a) := bW0 1
  have cW0_2 : W.cell? ⟨w.heap.size, 2, none⟩ = some (.slice B d.2.2.length b) := bW0 2
  clear hW
  have PW : BoxAt W w.heap.size #[.int .i64 d.1, .slice A d.2.1.length a, .slice B d.2.2.length b] := ⟨lW0, bW0, fW0⟩
  have nF1 : w.heap.size ∉ F1 := fun h => by have := Hlt.out _ (List.mem_append_left F2 h); omega
  have hAW := OD.toExt hA xW
  have hOW := hO.toExt xW
  go_wp2_with (first
    | (go_at_call 27; refine (markAtomS_d hb2 hAW N1 h0 (by omega)).mono ?_; rintro e w1 ⟨k1, rfl, HK1, kl1, ku1, hA1, hC1⟩; have P1 := PW.chg hC1 nF1; obtain ⟨l1, a1, a1', a1'', f1⟩ := box3 P1)
    | (go_at_call 28; refine (markIntS_any hm2 (hOW.chg hC1 (fun y hy hy2 => HN3.out y hy2 y hy rfl)) (by omega) (by omega)).mono ?_; rintro e w2 ⟨rfl, hO2, hC2⟩))
  go_ret
  have HK : (mkN mkA k0 d.2.1).2 = k1 := HK1.out
  have hA2 : sAts w2 [.slice A d.2.1.length a] (mkN mkA k0 d.2.1).1 F1 := OD.chg hA1 hC2 (fun y hy hy2 => HN3.out y hy y hy2 rfl)
  refine ⟨_, rfl, Lib.hid (by unfold mkQ; rw [HK]), by omega, by omega, ?_, ?_⟩
  · have hR := sP_mk (E0 := sI) (w := w2) (u := .int .i64 d.1) (d := (d.1, ((mkN mkA k0 d.2.1).1, marks k1 d.2.2.length))) ⟨rfl, rfl⟩ (sP_mk (E0 := sAts) (E1 := sSl 3 1 sI) (u := .slice A d.2.1.length a) (d := ((mkN mkA k0 d.2.1).1, marks k1 d.2.2.length)) hA2 ⟨_, rfl, hO2⟩)
    unfold mkQ
    rw [HK]
    simpa using hR
  · exact ((Chg.ofExt xW).trans hC1 (fun y hy => .inl (by simp [hy]))).trans hC2 (fun y hy => .inl (by simp [hy]))
end Go.Proofs.Ytedkmccfibaboaa
