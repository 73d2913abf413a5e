/- Contracts of functions that the statement reaches. -/
import Derived.Test.YtgnmpjjlclbieaaT09
import Derived.Test.YtgnmpjjlclbieaaT02
import Derived.Test.YtgnmpjjlclbieaaT07
namespace Go.Proofs.Ytgnmpjjlclbieaa
open Go.RowKit
theorem vTb_mk {w : World} {s : ByteArray} {v1 v2 : Value} {r : Rd} (h : vRel w [v1, v2] r) : vTb w [.string s, v1, v2] (s, r) := ⟨[.string s], [v1, v2], rfl, rfl, rfl, h⟩
theorem sAdd_len (name : ByteArray) (r : Rd) (p : Bool) (t : Td) : (sAdd name r p t).length ≤ 2 := by
  unfold sAdd
  rw [List.length_append]
  split <;> split <;> simp
theorem sPre_len {name : ByteArray} {r : Rd} : ∀ {p : Bool} {d : Dbd}, (sPre name r p d).1.length ≤ 2 * d.length
  | _, [] => by simp [sPre]
  | p, t :: d => by
    have h1 := sPre_len (name := name) (r := r) (p := p || !sLt t.1 name) (d := d)
    have h2 := sAdd_len name r p t
    rw [sPre, List.length_append, List.length_cons]
    omega
theorem sPre_len2 {name : ByteArray} {r : Rd} {d : Dbd} {k : Nat} : (sPre name r false (d.take k)).1.length ≤ 2 * d.length := by
  have h := sPre_len (name := name) (r := r) (p := false) (d := d.take k)
  have h2 : (d.take k).length ≤ d.length := by rw [List.length_take]; omega
  omega
theorem sPre_next {name : ByteArray} {r rx : Rd} {d L : Dbd} {k : Nat} {s : ByteArray} {put : Bool} (h : k < d.length) (hx : d[k] = (s, rx)) (hL : sPre name r false (d.take k) = (L, put)) : sPre name r false (d.take (k + 1)) = (L ++ (if put = false ∧ sLt s name = false then [(name, r)] else []) ++ (if s = name then [] else [(s, rx)]), put || !sLt s name) := by
  rw [sPre_take h, hL, hx, List.append_assoc]
  rfl
theorem mem_sIns {name : ByteArray} {r : Rd} {d : Dbd} {x : Td} (h : x ∈ sIns name r false d) : x = (name, r) ∨ x ∈ d := by
  rw [sIns_pre] at h
  rcases List.mem_append.1 h with h | h
  · exact mem_sPre h
  · split at h
    · cases h
    · exact .inl (List.mem_singleton.1 h)
theorem sIns_len (name : ByteArray) (r : Rd) (d : Dbd) : (sIns name r false d).length ≤ 2 * d.length + 1 := by
  rw [sIns_pre, List.length_append]
  have h := sPre_len (name := name) (r := r) (p := false) (d := d)
  split <;> simp <;> omega
theorem WDb.sins {d : Dbd} (h : WDb d) {name : ByteArray} {r : Rd} (hn : name.size ≤ 1000000000) (hl : d.length ≤ 100000000) (h1 : r.2.length ≤ 1000000000) (h2 : ∀ x ∈ r.2, x.length ≤ 1000000000) : WDb (sIns name r false d) := by
  refine ⟨by have := sIns_len name r d; omega, fun x m => ?_, fun x m => ?_, fun x m => ?_⟩
  · rcases mem_sIns m with rfl | k
    · exact hn
    · exact h.nm x k
  · rcases mem_sIns m with rfl | k
    · exact h1
    · exact h.rn x k
  · rcases mem_sIns m with rfl | k
    · exact h2
    · exact h.rl x k
def StR (te : Nat) (w : World) (L : Dbd) (b8 : Nat) (W1 W2 wx : World) : Prop := ∃ A c F, BoxAt wx b8 #[.slice A L.length c] ∧ SV te 3 (sOld vTb w) wx (.slice A L.length c) L F ∧ (∀ b ∈ F, W1.heap.size ≤ b) ∧ Chg [b8] W2 wx
theorem cellT {w w' : World} {b o : Nat} {v : Value} (h : w.cell? ⟨b, o, none⟩ = some v) (hb : b < w.heap.size) (hx : ∃ y, w' = ext w y) : w'.cell? ⟨b, o, none⟩ = some v := by
  obtain ⟨y, rfl⟩ := hx
  rw [cell_ext hb]
  exact h
set_option maxRecDepth 100000 in
set_option maxHeartbeats 16000000 in
theorem specSetRelation_any {A B : Option Addr} {c e : Nat} {d : Dbd} {name : ByteArray} {r : Rd} {w : World} (hd : WDb d) (h1 : RV 3 vTb w A d) (hdl : d.length ≤ 1048576) (hnm : name.size ≤ 1000000000) (hb : BRel r) (h2 : vRel w [.int .i64 r.1, .slice B r.2.length e] r) :
    Calls Try.prog 6 #[.agg #[.slice A d.length c], .string name, .agg #[.int .i64 r.1, .slice B r.2.length e]] w (DbPair (setD d name r) w) := by
  have HD := Lib.hid hd
  have hrn : r.2.length ≤ 1000000000 := by have := hb.2.1; omega
  have HWI := Lib.hid (hd.sins (name := name) (r := r) hnm (by omega) hrn hb.2.big)
  have HPR := Lib.hid (sIns_pre (name := name) (r := r) (put := false) (d := d))
  have HRF := Lib.hid (setD_ref (d := d) (name := name) (r := r))
  have HV2 := Lib.hid (vTb_mk (s := name) h2)
  have H1 := Lib.hid h1
  clear hd hb h2 h1
  go_enter Try.func6, Try.ntmps6
  go_upto_region 1 with fail
  refine wp_name ?_
  intro W hW
  have xW : ∃ y, W = ext w y := by rw [hW.out]; exact (by refine x'z ?_; repeat (with_reducible (first | exact x'a _ _ | exact x'b _ | exact x'c (by assumption) | refine x'd ?_ (by assumption) | refine x'e ?_ _ | refine x'f ?_ _ | refine x'g ?_ | refine x'h ?_ ?_ _ | refine x'i ?_ _ | refine x'j ?_ | refine x'k ?_ _ | refine x'l ?_ _ _ | refine x'm ?_ | assumption | (refine x'n ?_; omega) | omega)))
  have BW0 : BoxAt W (w.heap.size) #[.slice A d.length c] := by rw [hW.out]; refine ⟨?_, fun j => ?_, fun j => ?_⟩ <;> go_simp
  obtain ⟨lW0, bW0, fW0⟩ := BW0
  have cW0_0 : W.cell? ⟨w.heap.size, 0, none⟩ = some (.slice A d.length c) := bW0 0
  have BW1 : BoxAt W (w.heap.size + 1) #[.int .i64 r.1, .slice B r.2.length e] := by rw [hW.out]; refine ⟨?_, fun j => ?_, fun j => ?_⟩ <;> go_simp
  obtain ⟨lW1, bW1, fW1⟩ := BW1
  have cW1_0 : W.cell? ⟨w.heap.size + 1, 0, none⟩ = some (.int .i64 r.1) := bW1 0
  have cW1_1 : W.cell? ⟨w.heap.size + 1, 1, none⟩ = some (.slice B r.2.length e) := bW1 1
  have BW2 : BoxAt W (w.heap.size + 1 + 1) #[.slice none 0 0] := by rw [hW.out]; refine ⟨?_, fun j => ?_, fun j => ?_⟩ <;> go_simp
  obtain ⟨lW2, bW2, fW2⟩ := BW2
  have cW2_0 : W.cell? ⟨w.heap.size + 1 + 1, 0, none⟩ = some (.slice none 0 0) := bW2 0
  clear hW
  have HP : Hid (BoxAt W w.heap.size #[.slice A d.length c]) := Lib.hid ⟨lW0, bW0, fW0⟩
  have HQ : Hid (BoxAt W (w.heap.size + 1) #[.int .i64 r.1, .slice B r.2.length e]) := Lib.hid ⟨lW1, bW1, fW1⟩
  have HR : Hid (BoxAt W (w.heap.size + 1 + 1) #[.slice none 0 0]) := Lib.hid ⟨lW2, bW2, fW2⟩
  clear lW0 bW0 fW0 lW1 bW1 fW1 lW2 bW2 fW2 cW0_0 cW1_0 cW1_1 cW2_0
  have HXW := Lib.hid xW
  clear xW
  go_upto_region 2 with fail
  refine wp_name ?_
  intro W1 hW1
  have x1 : ∃ y, W1 = ext W y := by rw [hW1.out]; exact (by refine x'z ?_; repeat (with_reducible (first | exact x'a _ _ | exact x'b _ | exact x'c (by assumption) | refine x'd ?_ (by assumption) | refine x'e ?_ _ | refine x'f ?_ _ | refine x'g ?_ | refine x'h ?_ ?_ _ | refine x'i ?_ _ | refine x'j ?_ | refine x'k ?_ _ | refine x'l ?_ _ _ | refine x'm ?_ | assumption | (refine x'n ?_; omega) | omega)))
  have B8 : BoxAt W1 W.heap.size #[.slice none 0 0] := by rw [hW1.out]; exact (by repeat (with_reducible (first | assumption | exact BoxAt.new _ _ _ | apply BoxAt.set10 | apply BoxAt.set2 | refine BoxAt.set2' ?_ (by omega) | apply BoxAt.setP0 | apply BoxAt.setP1 | refine BoxAt.setO ?_ (by omega) | refine BoxAt.alloc ?_ _ | refine BoxAt.drew ?_ | refine BoxAt.toExt ?_ (by assumption))))
  have HX1 := Lib.hid (trans_ext HXW.out x1)
  have HP1 := Lib.hid (HP.out.toExt x1)
  have HQ1 := Lib.hid (HQ.out.toExt x1)
  have HR1 := Lib.hid (HR.out.toExt x1)
  have hR8 := HR.out.1
  obtain ⟨b8, q8⟩ : ∃ b, W.heap.size = b := ⟨_, rfl⟩
  rw [q8] at B8 hR8 ⊢
  have hb8 : b8 < W1.heap.size := B8.1
  have HB8 := Lib.hid B8
  have n0 : w.heap.size ≠ b8 := by omega
  have n1 : w.heap.size + 1 ≠ b8 := by omega
  have n2 : w.heap.size + 1 + 1 ≠ b8 := by omega
  clear hW1 x1 B8 q8 HP HQ HR
  go_wp2_with fail
  go_loopw [9, 10] (fun vp vi wr => ∃ (k : Nat) (put : Bool) (L : Dbd), vi = .int .i64 k ∧ vp = .bool put ∧ k ≤ d.length ∧ Hid (sPre name r false (d.take k) = (L, put)) ∧ Hid (StR 46 w L b8 W1 W1 wr)) (fun _ i _ => d.length - (intOf i).toNat)
  case atStart => exact ⟨0, false, [], rfl, rfl, by omega, Lib.hid (by simp [sPre]), Lib.hid ⟨none, 0, [], HB8.out, SV.nil, by simp, Chg.refl _ _⟩⟩
  case round =>
    obtain ⟨k, put, L, rfl, rfl, hk, HL, HST⟩ := hrel
    have hll : L.length ≤ 2 * d.length := by
      have h := sPre_len2 (name := name) (r := r) (d := d) (k := k)
      rw [HL.out] at h
      exact h
    obtain ⟨AX, cX, FX, hB, hS, hF, hC⟩ := HST.out
    have HBX := Lib.hid hB
    have HSX := Lib.hid hS
    have HFX := Lib.hid hF
    have HCX := Lib.hid hC
    have hzW := hC.size
    have h8x : b8 ∉ FX := fun h => by have := hF _ h; omega
    have hyw := hC.isExt HX1.out (fun x hx => by rw [List.mem_singleton.1 hx]; omega)
    have HYW := Lib.hid hyw
    clear hB hS hF hC
    obtain ⟨lp, p0, fp⟩ := bx1 (HP1.out.chg HCX.out (by simpa using n0))
    obtain ⟨lq, q0, q1, fq⟩ := bx2 (HQ1.out.chg HCX.out (by simpa using n1))
    obtain ⟨lx, x0, fx⟩ := bx1 HBX.out
    clear HST
    by_cases hlt : k < d.length
    · obtain ⟨g, o, A1, c1, rfl, hgl, hc0, hc1, hc2, hvx⟩ := H1.out.atT hlt
      have HNX := Lib.hid (fun s rx (hx : d[k] = (s, rx)) => sPre_next hlt hx HL.out)
      obtain ⟨x, hx⟩ : ∃ x, d[k] = x := ⟨_, rfl⟩
      rw [hx] at hc0 hc1 hc2 hvx
      obtain ⟨s, rx⟩ := x
      dsimp only at hc0 hc1 hc2 hvx
      have HN := Lib.hid (HNX.out s rx hx)
      have HVT := Lib.hid (vTb_mk (s := s) hvx)
      have k0 := cellT hc0 hgl hyw
      have k1 := cellT hc1 hgl hyw
      have k2 := cellT hc2 hgl hyw
      have hgr : g < wr.heap.size := Nat.lt_of_lt_of_le hgl (size_of_ext hyw)
      clear hc0 hc1 hc2 hvx hx HNX HL
      go_upto_region 7 with fail
      refine wp_name ?_
      intro W2 hW2
      have x2 : ∃ y, W2 = ext wr y := by rw [hW2.out]; exact (by refine x'z ?_; repeat (with_reducible (first | exact x'a _ _ | exact x'b _ | exact x'c (by assumption) | refine x'd ?_ (by assumption) | refine x'e ?_ _ | refine x'f ?_ _ | refine x'g ?_ | refine x'h ?_ ?_ _ | refine x'i ?_ _ | refine x'j ?_ | refine x'k ?_ _ | refine x'l ?_ _ _ | refine x'm ?_ | assumption | (refine x'n ?_; omega) | omega)))
      have T2 : BoxAt W2 wr.heap.size #[.string s, .int .i64 rx.1, .slice A1 rx.2.length c1] := by rw [hW2.out]; exact (by repeat (with_reducible (first | assumption | exact BoxAt.new _ _ _ | apply BoxAt.set3 | refine BoxAt.set3' ?_ (by omega) | apply BoxAt.set30 | apply BoxAt.set31 | apply BoxAt.set32 | apply BoxAt.set2 | refine BoxAt.set2' ?_ (by omega) | apply BoxAt.setP0 | apply BoxAt.setP1 | refine BoxAt.setO ?_ (by omega) | refine BoxAt.alloc ?_ _ | refine BoxAt.drew ?_ | refine BoxAt.toExt ?_ (by assumption))))
      have h2X : wr.heap.size ∉ FX := fun h => by have := HSX.out.lt _ h; omega
      have HBX := Lib.hid (HBX.out.toExt x2)
      have HSX := Lib.hid (HSX.out.toExt x2)
      have HCX := Lib.hid (HCX.out.trans0 x2)
      have hzW : W1.heap.size ≤ W2.heap.size := HCX.out.size
      have HT := Lib.hid T2
      have h28 : wr.heap.size ≠ b8 := by omega
      obtain ⟨b2, q2⟩ : ∃ b, wr.heap.size = b := ⟨_, rfl⟩
      rw [q2] at HT T2 h28 h2X ⊢
      have h22 := T2.1
      obtain ⟨lx, x0, fx⟩ := bx1 HBX.out
      obtain ⟨lq, q0, q1, fq⟩ := bx2 (HQ1.out.chg HCX.out (by simpa using n1))
      obtain ⟨lt, t0, t1, t2, ft⟩ := box3 T2
      have hLAl : (L ++ (if put = false ∧ sLt s name = false then [(name, r)] else [])).length ≤ 2 * d.length + 1 := by rw [List.length_append]; split <;> simp <;> omega
      clear hW2 T2 k0 k1 k2 lp p0 fp
      obtain ⟨LA, hLA⟩ : ∃ l, L ++ (if put = false ∧ sLt s name = false then [(name, r)] else []) = l := ⟨_, rfl⟩
      have HLA := Lib.hid hLA
      rw [hLA] at HN hLAl
      clear hLA
      obtain ⟨tt, htt⟩ : ∃ t, (!put && !sLt s name) = t := ⟨_, rfl⟩
      have HTT := Lib.hid htt
      clear htt
      go_cut [32] (fun v wx => v = .bool tt ∧ wx = W2)
      case first =>
        cases put with
        | true =>
          have HE := Lib.hid (show tt = false by rw [← HTT.out]; rfl)
          go_wp2_with fail
          go_meet
          exact ⟨by rw [HE.out], rfl⟩
        | false =>
          by_cases hs : sLt s name = true
          · have HE := Lib.hid (show tt = false by rw [← HTT.out, hs]; rfl)
            have hs2 : Op.bytesLess s.toList name.toList = true := hs
            clear hs
            go_wp2_with fail
            go_meet
            exact ⟨by rw [HE.out], rfl⟩
          · have hs : sLt s name = false := by simpa using hs
            have HE := Lib.hid (show tt = true by rw [← HTT.out, hs]; rfl)
            have hs2 : Op.bytesLess s.toList name.toList = false := hs
            clear hs
            go_wp2_with fail
            go_meet
            exact ⟨by rw [HE.out], rfl⟩
      obtain ⟨rfl, eW⟩ := hcut
      have eW := eW.symm
      subst eW
      have HP2 := Lib.hid (show (tt = true → put = false ∧ sLt s name = false) ∧ (tt = false → ¬ (put = false ∧ sLt s name = false)) ∧ (tt = true → (put || !sLt s name) = true) ∧ (tt = false → (put || !sLt s name) = put) by
        rw [← HTT.out]
        cases put <;> cases sLt s name <;> simp)
      go_upto_if 32 with fail
      go_cut [9] (fun v wx => v = .bool (put || !sLt s name) ∧ BoxAt wx b2 #[.string s, .int .i64 rx.1, .slice A1 rx.2.length c1] ∧ StR 46 w LA b8 W1 W1 wx)
      case first =>
        cases tt with
        | false =>
          have HE := Lib.hid (show LA = L by rw [← HLA.out, if_neg (HP2.out.2.1 rfl)]; simp)
          have HE2 := Lib.hid (HP2.out.2.2.2 rfl)
          go_wp2_with fail
          go_meet
          exact ⟨by rw [HE2.out], HT.out, by rw [HE.out]; exact ⟨AX, cX, FX, HBX.out, HSX.out, HFX.out, HCX.out⟩⟩
        | true =>
          have HE := Lib.hid (show LA = L ++ [(name, r)] by rw [← HLA.out, if_pos (HP2.out.1 rfl)])
          have HE2 := Lib.hid (HP2.out.2.2.1 rfl)
          have HVV := HV2
          go_wp2_with (at_builtin; refine wpList_app1 (E := sOld vTb w) (d := (name, r)) rfl _ _ _ rfl tTb rfl rfl rfl (by simp) (fun _ => ⟨HVV.out, rfl⟩) rfl (by simp [Value.oneCell']) (HSX.out.toExt (by refine x'z ?_; repeat (with_reducible (first | exact x'a _ _ | exact x'b _ | exact x'c (by assumption) | refine x'd ?_ (by assumption) | refine x'e ?_ _ | refine x'f ?_ _ | refine x'g ?_ | refine x'h ?_ ?_ _ | refine x'i ?_ _ | refine x'j ?_ | refine x'k ?_ _ | refine x'l ?_ _ _ | refine x'm ?_ | assumption | (refine x'n ?_; omega) | omega)))) (by omega) (by omega) ?_; intro v6 w6 F6 hS6 hC6 hF6; obtain ⟨A6, c6, rfl, _, _⟩ := hS6.form; have B6 := (HBX.out.toExt (by refine x'z ?_; repeat (with_reducible (first | exact x'a _ _ | exact x'b _ | exact x'c (by assumption) | refine x'd ?_ (by assumption) | refine x'e ?_ _ | refine x'f ?_ _ | refine x'g ?_ | refine x'h ?_ ?_ _ | refine x'i ?_ _ | refine x'j ?_ | refine x'k ?_ _ | refine x'l ?_ _ _ | refine x'm ?_ | assumption | (refine x'n ?_; omega) | omega)))).chg hC6 h8x; obtain ⟨l6, k6, f6⟩ := bx1 B6; have T6 := (HT.out.toExt (by refine x'z ?_; repeat (with_reducible (first | exact x'a _ _ | exact x'b _ | exact x'c (by assumption) | refine x'd ?_ (by assumption) | refine x'e ?_ _ | refine x'f ?_ _ | refine x'g ?_ | refine x'h ?_ ?_ _ | refine x'i ?_ _ | refine x'j ?_ | refine x'k ?_ _ | refine x'l ?_ _ _ | refine x'm ?_ | assumption | (refine x'n ?_; omega) | omega)))).chg hC6 h2X)
          have hl1 : (L ++ [(name, r)]).length = L.length + 1 := by simp
          rw [hl1] at hS6
          have hF6n : ∀ b ∈ F6, W1.heap.size ≤ b := fun b hb => by
            rcases hF6 b hb with h | h
            · exact HFX.out b h
            · exact Nat.le_trans hzW (Nat.le_trans (size_of_ext (by refine x'z ?_; repeat (with_reducible (first | exact x'a _ _ | exact x'b _ | exact x'c (by assumption) | refine x'd ?_ (by assumption) | refine x'e ?_ _ | refine x'f ?_ _ | refine x'g ?_ | refine x'h ?_ ?_ _ | refine x'i ?_ _ | refine x'j ?_ | refine x'k ?_ _ | refine x'l ?_ _ _ | refine x'm ?_ | assumption | (refine x'n ?_; omega) | omega)))) h)
          have hcw : Chg [b8] w6 (w6.setCell ⟨b8, 0, none⟩ (.slice A6 (L.length + 1) c6)) := (Chg.refl [b8] w6).setCell (p := ⟨b8, 0, none⟩) (.inl (by simp)) _
          have hCa := ((HCX.out.trans0 (by refine x'z ?_; repeat (with_reducible (first | exact x'a _ _ | exact x'b _ | exact x'c (by assumption) | refine x'd ?_ (by assumption) | refine x'e ?_ _ | refine x'f ?_ _ | refine x'g ?_ | refine x'h ?_ ?_ _ | refine x'i ?_ _ | refine x'j ?_ | refine x'k ?_ _ | refine x'l ?_ _ _ | refine x'm ?_ | assumption | (refine x'n ?_; omega) | omega)))).trans hC6 (fun x hx => .inr (HFX.out x hx))).trans hcw (fun x hx => .inl hx)
          have hSf := hS6.chg hcw (fun b hb h => by have h1 := hF6n b hb; rw [List.mem_singleton.1 h] at h1; omega)
          have hBf := B6.set10 (u := .slice A6 (L.length + 1) c6)
          have HSTN : Hid (StR 46 w (L ++ [(name, r)]) b8 W1 W1 (w6.setCell ⟨b8, 0, none⟩ (.slice A6 (L.length + 1) c6))) := Lib.hid ⟨A6, c6, F6, by rw [hl1]; exact hBf, by rw [hl1]; exact hSf, hF6n, hCa⟩
          clear hF6n hcw hCa hSf hBf hS6 hC6 hF6 B6 hl1
          have HT2 := Lib.hid (BoxAt.setO (B' := b8) (k := 0) (u := .slice A6 (L.length + 1) c6) T6 (by omega))
          go_meet
          exact ⟨by rw [HE2.out], HT2.out, by rw [HE.out]; exact HSTN.out⟩
      obtain ⟨rfl, hT, hst⟩ := hcut
      obtain ⟨W3, rfl⟩ : ∃ W, W = wc := ⟨_, rfl⟩
      obtain ⟨put2, hp2⟩ : ∃ p, (put || !sLt s name) = p := ⟨_, rfl⟩
      rw [hp2] at HN ⊢
      have HT := Lib.hid hT
      have HST := Lib.hid hst
      clear hst hT hp2 HBX HSX HFX HCX HYW hzW h8x hyw h2X lx x0 fx lq q0 q1 fq lt t0 t1 t2 ft
      obtain ⟨AX, cX, FX, hB, hS, hF, hC⟩ := HST.out
      have HBX := Lib.hid hB
      have HSX := Lib.hid hS
      have HFX := Lib.hid hF
      have HCX := Lib.hid hC
      have hzW := hC.size
      have h8x : b8 ∉ FX := fun h => by have := hF _ h; omega
      have hyw := hC.isExt HX1.out (fun x hx => by rw [List.mem_singleton.1 hx]; omega)
      have HYW := Lib.hid hyw
      clear hB hS hF hC
      obtain ⟨lx, x0, fx⟩ := bx1 HBX.out
      obtain ⟨lt, t0, t1, t2, ft⟩ := box3 HT.out
      by_cases he : s = name
      · have hbb : (s.toList == name.toList) = true := str_beqt he
        have HN2 := Lib.hid (show sPre name r false (d.take (k + 1)) = (LA, put2) by rw [HN.out, if_pos he, List.append_nil])
        clear he
        go_wp2_with fail
        exact ⟨⟨k + 1, put2, LA, by go_num, rfl, by omega, HN2, HST⟩, by simp [intOf]; omega⟩
      · have hbb : (s.toList == name.toList) = false := str_beqf he
        have HN2 := Lib.hid (show sPre name r false (d.take (k + 1)) = (LA ++ [(s, rx)], put2) by rw [HN.out, if_neg he])
        have HVV := HVT
        clear he
        go_wp2_with (at_builtin; refine wpList_app1 (E := sOld vTb w) (d := (s, rx)) rfl _ _ _ rfl tTb rfl rfl rfl (by simp) (fun _ => ⟨HVV.out, rfl⟩) rfl (by simp [Value.oneCell']) (HSX.out.toExt (by refine x'z ?_; repeat (with_reducible (first | exact x'a _ _ | exact x'b _ | exact x'c (by assumption) | refine x'd ?_ (by assumption) | refine x'e ?_ _ | refine x'f ?_ _ | refine x'g ?_ | refine x'h ?_ ?_ _ | refine x'i ?_ _ | refine x'j ?_ | refine x'k ?_ _ | refine x'l ?_ _ _ | refine x'm ?_ | assumption | (refine x'n ?_; omega) | omega)))) (by omega) (by omega) ?_; intro v6 w6 F6 hS6 hC6 hF6; obtain ⟨A6, c6, rfl, _, _⟩ := hS6.form; have B6 := (HBX.out.toExt (by refine x'z ?_; repeat (with_reducible (first | exact x'a _ _ | exact x'b _ | exact x'c (by assumption) | refine x'd ?_ (by assumption) | refine x'e ?_ _ | refine x'f ?_ _ | refine x'g ?_ | refine x'h ?_ ?_ _ | refine x'i ?_ _ | refine x'j ?_ | refine x'k ?_ _ | refine x'l ?_ _ _ | refine x'm ?_ | assumption | (refine x'n ?_; omega) | omega)))).chg hC6 h8x; obtain ⟨l6, k6, f6⟩ := bx1 B6; skip)
        have hl1 : (LA ++ [(s, rx)]).length = LA.length + 1 := by simp
        rw [hl1] at hS6
        have hF6n : ∀ b ∈ F6, W1.heap.size ≤ b := fun b hb => by
          rcases hF6 b hb with h | h
          · exact HFX.out b h
          · exact Nat.le_trans hzW (Nat.le_trans (size_of_ext (by refine x'z ?_; repeat (with_reducible (first | exact x'a _ _ | exact x'b _ | exact x'c (by assumption) | refine x'd ?_ (by assumption) | refine x'e ?_ _ | refine x'f ?_ _ | refine x'g ?_ | refine x'h ?_ ?_ _ | refine x'i ?_ _ | refine x'j ?_ | refine x'k ?_ _ | refine x'l ?_ _ _ | refine x'm ?_ | assumption | (refine x'n ?_; omega) | omega)))) h)
        have hcw : Chg [b8] w6 (w6.setCell ⟨b8, 0, none⟩ (.slice A6 (LA.length + 1) c6)) := (Chg.refl [b8] w6).setCell (p := ⟨b8, 0, none⟩) (.inl (by simp)) _
        have hCa := ((HCX.out.trans0 (by refine x'z ?_; repeat (with_reducible (first | exact x'a _ _ | exact x'b _ | exact x'c (by assumption) | refine x'd ?_ (by assumption) | refine x'e ?_ _ | refine x'f ?_ _ | refine x'g ?_ | refine x'h ?_ ?_ _ | refine x'i ?_ _ | refine x'j ?_ | refine x'k ?_ _ | refine x'l ?_ _ _ | refine x'm ?_ | assumption | (refine x'n ?_; omega) | omega)))).trans hC6 (fun x hx => .inr (HFX.out x hx))).trans hcw (fun x hx => .inl hx)
        have hSf := hS6.chg hcw (fun b hb h => by have h1 := hF6n b hb; rw [List.mem_singleton.1 h] at h1; omega)
        have hBf := B6.set10 (u := .slice A6 (LA.length + 1) c6)
        have HSTN : Hid (StR 46 w (LA ++ [(s, rx)]) b8 W1 W1 (w6.setCell ⟨b8, 0, none⟩ (.slice A6 (LA.length + 1) c6))) := Lib.hid ⟨A6, c6, F6, by rw [hl1]; exact hBf, by rw [hl1]; exact hSf, hF6n, hCa⟩
        clear hF6n hcw hCa hSf hBf hS6 hC6 hF6 B6 hl1
        exact ⟨⟨k + 1, put2, LA ++ [(s, rx)], by go_num, rfl, by omega, HN2, HSTN⟩, by simp [intOf]; omega⟩
    · have HL2 := Lib.hid (show sIns name r false d = L ++ (if put = true then [] else [(name, r)]) by
        have h := HL.out
        rw [List.take_of_length_le (show d.length ≤ k by omega)] at h
        rw [HPR.out, h])
      go_upto_if 52 with fail
      go_cut [] (fun wx => StR 46 w (sIns name r false d) b8 W1 W1 wx)
      case first =>
        cases put with
        | true =>
          have HE := Lib.hid (show sIns name r false d = L by rw [HL2.out, if_pos rfl, List.append_nil])
          go_wp2_with fail
          go_meet
          rw [HE.out]
          exact ⟨AX, cX, FX, HBX.out, HSX.out, HFX.out, HCX.out⟩
        | false =>
          have HE := Lib.hid (show sIns name r false d = L ++ [(name, r)] by rw [HL2.out, if_neg (by simp)])
          have HVV := HV2
          go_wp2_with (at_builtin; refine wpList_app1 (E := sOld vTb w) (d := (name, r)) rfl _ _ _ rfl tTb rfl rfl rfl (by simp) (fun _ => ⟨HVV.out, rfl⟩) rfl (by simp [Value.oneCell']) (HSX.out.toExt (by refine x'z ?_; repeat (with_reducible (first | exact x'a _ _ | exact x'b _ | exact x'c (by assumption) | refine x'd ?_ (by assumption) | refine x'e ?_ _ | refine x'f ?_ _ | refine x'g ?_ | refine x'h ?_ ?_ _ | refine x'i ?_ _ | refine x'j ?_ | refine x'k ?_ _ | refine x'l ?_ _ _ | refine x'm ?_ | assumption | (refine x'n ?_; omega) | omega)))) (by omega) (by omega) ?_; intro v6 w6 F6 hS6 hC6 hF6; obtain ⟨A6, c6, rfl, _, _⟩ := hS6.form; have B6 := (HBX.out.toExt (by refine x'z ?_; repeat (with_reducible (first | exact x'a _ _ | exact x'b _ | exact x'c (by assumption) | refine x'd ?_ (by assumption) | refine x'e ?_ _ | refine x'f ?_ _ | refine x'g ?_ | refine x'h ?_ ?_ _ | refine x'i ?_ _ | refine x'j ?_ | refine x'k ?_ _ | refine x'l ?_ _ _ | refine x'm ?_ | assumption | (refine x'n ?_; omega) | omega)))).chg hC6 h8x; obtain ⟨l6, k6, f6⟩ := bx1 B6; skip)
          have hl1 : (L ++ [(name, r)]).length = L.length + 1 := by simp
          rw [hl1] at hS6
          have hF6n : ∀ b ∈ F6, W1.heap.size ≤ b := fun b hb => by
            rcases hF6 b hb with h | h
            · exact HFX.out b h
            · exact Nat.le_trans hzW (Nat.le_trans (size_of_ext (by refine x'z ?_; repeat (with_reducible (first | exact x'a _ _ | exact x'b _ | exact x'c (by assumption) | refine x'd ?_ (by assumption) | refine x'e ?_ _ | refine x'f ?_ _ | refine x'g ?_ | refine x'h ?_ ?_ _ | refine x'i ?_ _ | refine x'j ?_ | refine x'k ?_ _ | refine x'l ?_ _ _ | refine x'm ?_ | assumption | (refine x'n ?_; omega) | omega)))) h)
          have hcw : Chg [b8] w6 (w6.setCell ⟨b8, 0, none⟩ (.slice A6 (L.length + 1) c6)) := (Chg.refl [b8] w6).setCell (p := ⟨b8, 0, none⟩) (.inl (by simp)) _
          have hCa := ((HCX.out.trans0 (by refine x'z ?_; repeat (with_reducible (first | exact x'a _ _ | exact x'b _ | exact x'c (by assumption) | refine x'd ?_ (by assumption) | refine x'e ?_ _ | refine x'f ?_ _ | refine x'g ?_ | refine x'h ?_ ?_ _ | refine x'i ?_ _ | refine x'j ?_ | refine x'k ?_ _ | refine x'l ?_ _ _ | refine x'm ?_ | assumption | (refine x'n ?_; omega) | omega)))).trans hC6 (fun x hx => .inr (HFX.out x hx))).trans hcw (fun x hx => .inl hx)
          have hSf := hS6.chg hcw (fun b hb h => by have h1 := hF6n b hb; rw [List.mem_singleton.1 h] at h1; omega)
          have hBf := B6.set10 (u := .slice A6 (L.length + 1) c6)
          have HSTN : Hid (StR 46 w (L ++ [(name, r)]) b8 W1 W1 (w6.setCell ⟨b8, 0, none⟩ (.slice A6 (L.length + 1) c6))) := Lib.hid ⟨A6, c6, F6, by rw [hl1]; exact hBf, by rw [hl1]; exact hSf, hF6n, hCa⟩
          clear hF6n hcw hCa hSf hBf hS6 hC6 hF6 B6 hl1
          go_meet
          rw [HE.out]
          exact HSTN.out
      have hst := hcut
      obtain ⟨W3, rfl⟩ : ∃ W, W = wc := ⟨_, rfl⟩
      have HST := Lib.hid hst
      clear hst HBX HSX HFX HCX HYW hzW h8x hyw lx x0 fx lq q0 q1 fq lp p0 fp HL HL2 HPR hll
      obtain ⟨AX, cX, FX, hB, hS, hF, hC⟩ := HST.out
      have HBX := Lib.hid hB
      have HSX := Lib.hid hS
      have HFX := Lib.hid hF
      have HCX := Lib.hid hC
      have hzW := hC.size
      have h8x : b8 ∉ FX := fun h => by have := hF _ h; omega
      have hyw := hC.isExt HX1.out (fun x hx => by rw [List.mem_singleton.1 hx]; omega)
      have HYW := Lib.hid hyw
      clear hB hS hF hC
      obtain ⟨L2, hL2⟩ : ∃ l, sIns name r false d = l := ⟨_, rfl⟩
      have HEL := Lib.hid hL2
      rw [hL2] at HWI HRF HBX HSX
      have HV3 := Lib.hid (HSX.out.toView (fun c d F h => sOld_v hyw c d F h))
      have HP3 := Lib.hid (HP1.out.chg HCX.out (by simpa using n0))
      have HR3 := Lib.hid (HR1.out.chg HCX.out (by simpa using n2))
      obtain ⟨t, ht⟩ : ∃ t, dbB d = t := ⟨_, rfl⟩
      obtain ⟨t2, ht2⟩ : ∃ t, dbB L2 = t := ⟨_, rfl⟩
      have HT := Lib.hid ht
      have HT2 := Lib.hid ht2
      have hz3 := size_of_ext hyw
      obtain ⟨lp, p0, fp⟩ := bx1 HP3.out
      clear hL2 HST ht ht2
      go_wp2_with fail
      refine (specIsValidDatabase_w HD.out (H1.out.toExt hyw)).mono ?_
      rintro e w10 ⟨rfl, hx10⟩
      rw [HT.out]
      have hyw10 := trans_ext hyw hx10
      obtain ⟨lp1, p01, fp1⟩ := bx1 (HP3.out.toExt hx10)
      obtain ⟨lx1, x01, fx1⟩ := bx1 (HBX.out.toExt hx10)
      clear lp p0 fp
      cases t with
      | false =>
        have HZ := Lib.hid (show setD d name r = (d, false) by rw [HRF.out, if_neg (by rw [HT.out]; simp)])
        go_wp2_with fail
        refine (l6Copy_any HD.out (H1.out.toExt hyw10)).mono ?_
        rintro e w11 ⟨v9, F9, rfl, hx11, hS9, hN9, hF9⟩
        obtain ⟨A9, c9, rfl⟩ := sDb_form hS9
        obtain ⟨lr9, r90, fr9⟩ := bx1 (HR3.out.toExt (trans_ext hx10 hx11))
        have hX := trans_ext hyw10 hx11
        have hzz := size_of_ext hyw10
        have hz12 := size_of_ext hx10
        have hr3 := HR3.out.1
        go_wp2_with fail
        refine bodyPost_ret (v := .tuple #[.agg #[.slice A9 d.length c9], .bool false]) (by simp [results, Try.results6, go_sem, *]) rfl ⟨_, F9, by rw [HZ.out], (by refine x'z ?_; repeat (with_reducible (first | exact x'a _ _ | exact x'b _ | exact x'c (by assumption) | refine x'd ?_ (by assumption) | refine x'e ?_ _ | refine x'f ?_ _ | refine x'g ?_ | refine x'h ?_ ?_ _ | refine x'i ?_ _ | refine x'j ?_ | refine x'k ?_ _ | refine x'l ?_ _ _ | refine x'm ?_ | assumption | (refine x'n ?_; omega) | omega))), by rw [HZ.out]; exact OD.chg (G := [w.heap.size + 1 + 1]) hS9 (by repeat (with_reducible (first | exact Chg.refl _ _ | refine Chg.trans0 ?_ (by assumption) | refine Chg.extS ?_ _ | refine Chg.alloc ?_ _ | refine Chg.drew ?_ | refine Chg.setCell ?_ (.inl (by simp)) _))) (fun b hb h => by have := hF9 b hb; rw [List.mem_singleton.1 h] at this; omega), hN9, fun b hb => by have := hF9 b hb; omega⟩
      | true =>
        go_wp2_with fail
        refine (specIsValidDatabase_w HWI.out (HV3.out.toExt hx10)).mono ?_
        rintro e w12 ⟨rfl, hx12⟩
        rw [HT2.out]
        have hyw12 := trans_ext hyw10 hx12
        have hx312 := trans_ext hx10 hx12
        obtain ⟨lp2, p02, fp2⟩ := bx1 (HP3.out.toExt hx312)
        obtain ⟨lx2, x02, fx2⟩ := bx1 (HBX.out.toExt hx312)
        clear lp1 p01 fp1 lx1 x01 fx1
        cases t2 with
        | false =>
          have HZ := Lib.hid (show setD d name r = (d, false) by rw [HRF.out, if_neg (by rw [HT2.out]; simp)])
          go_wp2_with fail
          refine (l6Copy_any HD.out (H1.out.toExt hyw12)).mono ?_
          rintro e w11 ⟨v9, F9, rfl, hx11, hS9, hN9, hF9⟩
          obtain ⟨A9, c9, rfl⟩ := sDb_form hS9
          obtain ⟨lr9, r90, fr9⟩ := bx1 (HR3.out.toExt (trans_ext hx312 hx11))
          have hX := trans_ext hyw12 hx11
          have hzz := size_of_ext hyw12
          have hz12 := size_of_ext hx312
          have hr3 := HR3.out.1
          go_wp2_with fail
          refine bodyPost_ret (v := .tuple #[.agg #[.slice A9 d.length c9], .bool false]) (by simp [results, Try.results6, go_sem, *]) rfl ⟨_, F9, by rw [HZ.out], (by refine x'z ?_; repeat (with_reducible (first | exact x'a _ _ | exact x'b _ | exact x'c (by assumption) | refine x'd ?_ (by assumption) | refine x'e ?_ _ | refine x'f ?_ _ | refine x'g ?_ | refine x'h ?_ ?_ _ | refine x'i ?_ _ | refine x'j ?_ | refine x'k ?_ _ | refine x'l ?_ _ _ | refine x'm ?_ | assumption | (refine x'n ?_; omega) | omega))), by rw [HZ.out]; exact OD.chg (G := [w.heap.size + 1 + 1]) hS9 (by repeat (with_reducible (first | exact Chg.refl _ _ | refine Chg.trans0 ?_ (by assumption) | refine Chg.extS ?_ _ | refine Chg.alloc ?_ _ | refine Chg.drew ?_ | refine Chg.setCell ?_ (.inl (by simp)) _))) (fun b hb h => by have := hF9 b hb; rw [List.mem_singleton.1 h] at this; omega), hN9, fun b hb => by have := hF9 b hb; omega⟩
        | true =>
          have HZ := Lib.hid (show setD d name r = (L2, true) by rw [HRF.out, if_pos ⟨HT.out, HT2.out⟩])
          go_wp2_with fail
          refine (l6Copy_any HWI.out (HV3.out.toExt hx312)).mono ?_
          rintro e w11 ⟨v9, F9, rfl, hx11, hS9, hN9, hF9⟩
          obtain ⟨A9, c9, rfl⟩ := sDb_form hS9
          obtain ⟨lr9, r90, fr9⟩ := bx1 (HR3.out.toExt (trans_ext hx312 hx11))
          have hX := trans_ext hyw12 hx11
          have hzz := size_of_ext hyw12
          have hz12 := size_of_ext hx312
          have hr3 := HR3.out.1
          go_wp2_with fail
          refine bodyPost_ret (v := .tuple #[.agg #[.slice A9 L2.length c9], .bool true]) (by simp [results, Try.results6, go_sem, *]) rfl ⟨_, F9, by rw [HZ.out], (by refine x'z ?_; repeat (with_reducible (first | exact x'a _ _ | exact x'b _ | exact x'c (by assumption) | refine x'd ?_ (by assumption) | refine x'e ?_ _ | refine x'f ?_ _ | refine x'g ?_ | refine x'h ?_ ?_ _ | refine x'i ?_ _ | refine x'j ?_ | refine x'k ?_ _ | refine x'l ?_ _ _ | refine x'm ?_ | assumption | (refine x'n ?_; omega) | omega))), by rw [HZ.out]; exact OD.chg (G := [w.heap.size + 1 + 1]) hS9 (by repeat (with_reducible (first | exact Chg.refl _ _ | refine Chg.trans0 ?_ (by assumption) | refine Chg.extS ?_ _ | refine Chg.alloc ?_ _ | refine Chg.drew ?_ | refine Chg.setCell ?_ (.inl (by simp)) _))) (fun b hb h => by have := hF9 b hb; rw [List.mem_singleton.1 h] at this; omega), hN9, fun b hb => by have := hF9 b hb; omega⟩
end Go.Proofs.Ytgnmpjjlclbieaa
