/- Contracts of functions that the statements reach, joined from several texts: ParD, SetPl, BdDb. -/
import Derived.Test.YtfigcfajkilhiaaM09
import Derived.Test.YtfigcfajkilhiaaM06
import Derived.Test.YtfigcfajkilhiaaM02
/- Databases read from text: the program's way and the reference's. -/
namespace Go.Proofs.Ytfigcfajkilhiaa
open Go.RowKit
theorem pdG_at {acc : Dbd} {ls : List ByteArray} {k : Nat} (h : k < ls.length) : pdG acc (ls.drop k) = (if (splB 61 ls[k]).length = 2 then (match pRel ((splB 61 ls[k]).getD 1 ⟨#[]⟩) with | none => none | some r => pdG (acc ++ [((splB 61 ls[k]).getD 0 ⟨#[]⟩, r)]) (ls.drop (k + 1))) else none) := by
  rw [List.drop_eq_getElem_cons h, pdG] <;> rfl
theorem pdG_nil {acc : Dbd} {ls : List ByteArray} {k : Nat} (h : ¬ k < ls.length) : pdG acc (ls.drop k) = some acc := by
  rw [List.drop_eq_nil_of_le (by omega), pdG]
theorem pdS_at {acc : Dbd} {ls : List ByteArray} {k : Nat} (h : k < ls.length) : pdS acc (ls.drop k) = (match pRel (lastB (splB 61 ls[k])) with | none => none | some r => pdS (acc ++ [((splB 61 ls[k]).getD 0 ⟨#[]⟩, r)]) (ls.drop (k + 1))) := by
  rw [List.drop_eq_getElem_cons h, pdS] <;> rfl
theorem pdS_nil {acc : Dbd} {ls : List ByteArray} {k : Nat} (h : ¬ k < ls.length) : pdS acc (ls.drop k) = some acc := by
  rw [List.drop_eq_nil_of_le (by omega), pdS]
theorem dropLast_at {α : Type} {l : List α} {k : Nat} (h : k < l.dropLast.length) (h2 : k < l.length) : l.dropLast[k] = l[k] := List.getElem_dropLast h
def finO (o : Option Dbd) (s : ByteArray) : Option Dbd := match o with
  | none => none
  | some d => finD d s
def finT (o : Option Dbd) (s : ByteArray) : Option Dbd := match o with
  | none => none
  | some d => if dbB d = true ∧ fmtD d = s then some d else none
theorem pDb_o {s : ByteArray} {ws ls : List ByteArray} (h : splB 10 s = ws) (h2 : ws.dropLast = ls) : pDb s = finO (pdG [] ls) s := by
  subst h h2
  rfl
theorem pDb_t {s : ByteArray} {ws ls : List ByteArray} (h : splB 10 s = ws) (h2 : ws.dropLast = ls) : pDb s = finT (pdS [] ls) s := by
  subst h h2
  rw [← pDbS_eq] <;> rfl
/-- a database made or none, with what it holds newer than the call -/
def DbRes (o : Option Dbd) (w : World) (e : Ending) (w' : World) : Prop := ∃ v F, e = .returned (.tuple #[.agg #[v], .bool o.isSome]) ∧ (∃ y, w' = ext w y) ∧ sDb w' [v] (o.getD []) F ∧ F.Nodup ∧ ∀ b ∈ F, w.heap.size ≤ b
theorem dbRes_none {w w' : World} {e : Ending} {o : Option Dbd} (ho : o = none) (he : e = .returned (.tuple #[.agg #[.slice none 0 0], .bool false])) (hx : ∃ y, w' = ext w y) : DbRes o w e w' := by
  subst ho
  exact ⟨_, [], he, hx, ⟨_, rfl, SV.nil⟩, by simp, by simp⟩
/-- the small of a table read -/
def TW (x : Td) : Prop := x.1.size ≤ 1000000000 ∧ x.2.2.length ≤ 1000000000 ∧ ∀ r ∈ x.2.2, r.length ≤ 1000000000
theorem TW.mk {s : ByteArray} {r : Rd} (hs : s.size ≤ 1000000000) (h : rowsB r.1 r.2 = true) : TW (s, r) := by
  have h1 := rowsB_sz h
  exact ⟨hs, by have := h1.n; dsimp only; omega, fun x hx => by have := h1.rl x hx; omega⟩
theorem TW.wdb {d : Dbd} (hn : d.length ≤ 1000000000) (h : ∀ x ∈ d, TW x) : WDb d := ⟨hn, fun x hx => (h x hx).1, fun x hx => (h x hx).2.1, fun x hx => (h x hx).2.2⟩
set_option maxRecDepth 100000 in
set_option maxHeartbeats 16000000 in
theorem ParseDatabase_any {s : ByteArray} {w : World} (hs : s.size ≤ 1048576) : Calls Try.prog 29 #[.string s] w (DbRes (pDb s) w) := by
  have hpos := splB_pos 10 s
  obtain ⟨ws, hws⟩ : ∃ ws, splB 10 s = ws := ⟨_, rfl⟩
  have HW := Lib.hid hws
  have hwl : ws.length ≤ s.size + 1 := by rw [← hws]; exact splB_length 10 s
  have HWP : Hid (∀ x ∈ ws, x.size ≤ s.size) := Lib.hid (by rw [← hws]; exact fun x hx => splB_piece hx)
  rw [hws] at hpos
  obtain ⟨ls, hls⟩ : ∃ ls, ws.dropLast = ls := ⟨_, rfl⟩
  have hll : ls.length = ws.length - 1 := by rw [← hls]; simp
  have HLS : Hid (∀ k (h : k < ls.length) (h2 : k < ws.length), ls[k] = ws[k]) := Lib.hid (by subst hls; exact fun k h h2 => dropLast_at h h2)
  have HE := Lib.hid (pDb_o hws hls)
  clear hws hls
  go_enter Try.func29, Try.ntmps29
  go_upto_region 1 with fail
  refine wp_name ?_
  intro W hW
  have xW : ∃ y, W = ext w y := by rw [hW.out]; exact (by refine Chg.isExt (F := []) ?_ (refl_ext _) (by simp); repeat (with_reducible (first | exact Chg.refl _ _ | exact Nat.le_refl _ | exact Chg.ofExt (by assumption) | refine Chg.trans0 ?_ (by assumption) | refine Chg.extS ?_ _ | refine Chg.alloc ?_ _ | refine Chg.drew ?_ | refine Chg.setCellE ?_ ?_ _ | refine le_addk ?_ _ | refine le_ext ?_ | refine le_alloc ?_ _ | refine le_setC ?_ _ _ | refine le_drew ?_ | assumption | (refine Nat.le_of_lt ?_; omega) | omega)))
  have BW0 : BoxAt W (w.heap.size) #[.slice none 0 0] := by rw [hW.out]; refine ⟨?_, fun j => ?_, fun j => ?_⟩ <;> go_simp
  obtain ⟨lW0, bW0, fW0⟩ := BW0
  have cW0_0 : W.cell? ⟨w.heap.size, 0, none⟩ = some (.slice none 0 0) := bW0 0
  clear hW
  have RW : BoxAt W w.heap.size #[.slice none 0 0] := ⟨lW0, bW0, fW0⟩
  clear bW0 fW0 cW0_0
  go_upto_region 2 with fail
  refine wp_name ?_
  intro W2 hW2
  have x2 : ∃ y, W2 = ext W y := by rw [hW2.out]; exact (by refine Chg.isExt (F := []) ?_ (refl_ext _) (by simp); repeat (with_reducible (first | exact Chg.refl _ _ | exact Nat.le_refl _ | exact Chg.ofExt (by assumption) | refine Chg.trans0 ?_ (by assumption) | refine Chg.extS ?_ _ | refine Chg.alloc ?_ _ | refine Chg.drew ?_ | refine Chg.setCellE ?_ ?_ _ | refine le_addk ?_ _ | refine le_ext ?_ | refine le_alloc ?_ _ | refine le_setC ?_ _ _ | refine le_drew ?_ | assumption | (refine Nat.le_of_lt ?_; omega) | omega)))
  have B2 : BoxAt W2 W.heap.size #[.slice none 0 0] := by rw [hW2.out]; exact (by repeat (with_reducible (first | assumption | exact BoxAt.new _ _ _ | apply BoxAt.set10 | apply BoxAt.set2 | refine BoxAt.set2' ?_ (by omega) | apply BoxAt.setP0 | apply BoxAt.setP1 | refine BoxAt.setO ?_ (by omega) | refine BoxAt.alloc ?_ _ | refine BoxAt.drew ?_ | refine BoxAt.toExt ?_ (by assumption))))
  have hb7 : w.heap.size < W.heap.size := lW0
  obtain ⟨b7, q7⟩ : ∃ b, W.heap.size = b := ⟨_, rfl⟩
  rw [q7] at B2 hb7 ⊢
  have R2 := RW.toExt x2
  have hx02 := trans_ext xW x2
  have hb72 : b7 < W2.heap.size := B2.1
  clear hW2 q7 RW lW0 x2 xW
  go_wp2_with fail
  refine (split_m 10 10 (by omega) (by decide)).mono ?_
  rintro e w4 ⟨vx, Fx, rfl, hx4, hSx, hFx⟩
  rw [HW.out] at hSx
  obtain ⟨Ax, cx, rfl, hxc, hxm⟩ := hSx.form
  have HB74 := Lib.hid (B2.toExt hx4)
  have HR4 := Lib.hid (R2.toExt hx4)
  have HX4 := Lib.hid (trans_ext hx02 hx4)
  have hz4 := size_of_ext hx4
  have H7x : Hid (∀ b ∈ Fx, b ∉ [b7]) := Lib.hid (fun b hb h => by have := hFx b hb; rw [List.mem_singleton.1 h] at this; omega)
  have HSx := Lib.hid hSx
  have h74 : b7 < w4.heap.size := HB74.out.1
  clear hSx hFx B2 R2 hx02 hx4
  go_wp2_with fail
  go_loopw [19] (fun i wr => ∃ (k : Nat) (d : Dbd) (A : Option Addr) (c : Nat) (F : List Nat), i = .int .i64 k ∧ k ≤ ls.length ∧ BoxAt wr b7 #[.slice A d.length c] ∧ SV 108 3 sTb wr (.slice A d.length c) d F ∧ F.Nodup ∧ (∀ b ∈ F, w4.heap.size ≤ b) ∧ Chg [b7] w4 wr ∧ d.length ≤ k ∧ (∀ x ∈ d, TW x) ∧ Hid (pdG d (ls.drop k) = pdG [] ls)) (fun i _ => ls.length - (intOf i).toNat)
  case atStart => exact ⟨0, [], none, 0, [], rfl, by omega, HB74.out, SV.nil, by simp, by simp, Chg.refl _ _, by simp, by simp, Lib.hid rfl⟩
  case round =>
    obtain ⟨k, d, A, c, F, rfl, hk, hB, hS, hN, hF, hC, hdl, hdw, Hj⟩ := hrel
    have HS := Lib.hid hS
    have HSl := Lib.hid hS.lt
    have HN := Lib.hid hN
    have HF := Lib.hid hF
    have HC := Lib.hid hC
    have HDW := Lib.hid hdw
    have HB := Lib.hid hB
    have h7r : b7 < wr.heap.size := hB.1
    have hzc := hC.size
    by_cases hlt : k < ls.length
    · have hlt2 : k < ws.length := by omega
      obtain ⟨_, _, e5, _, _, rx⟩ := (HSx.out.chg hC H7x.out).view sS_v
      injection e5 with e5 _ e6
      subst e5 e6
      obtain ⟨bx, ox, rfl, hbx, hcx⟩ := rx.atS hlt2
      have ej := Hj.out
      rw [pdG_at hlt, HLS.out k hlt hlt2] at ej
      obtain ⟨wd, hwd⟩ : ∃ x, ws[k] = x := ⟨_, rfl⟩
      have hwdp : wd.size ≤ s.size := by rw [← hwd]; exact HWP.out _ (List.getElem_mem hlt2)
      rw [hwd] at ej hcx
      obtain ⟨ps, hps⟩ : ∃ ps, splB 61 wd = ps := ⟨_, rfl⟩
      have hppos := splB_pos 61 wd
      have hpl : ps.length ≤ wd.size + 1 := by rw [← hps]; exact splB_length 61 wd
      have hpp : ∀ x ∈ ps, x.size ≤ wd.size := by rw [← hps]; exact fun x hx => splB_piece hx
      rw [hps] at ej hppos
      have HPS := Lib.hid hps
      have HPP := Lib.hid hpp
      obtain ⟨nm, hnm⟩ : ∃ x, ps.getD 0 ⟨#[]⟩ = x := ⟨_, rfl⟩
      have HNM := Lib.hid hnm
      have hnms : nm.size ≤ wd.size := by
        rw [← hnm, show ps.getD 0 ⟨#[]⟩ = ps[0] by simp [List.getD_eq_getElem?_getD, hppos]]
        exact hpp _ (List.getElem_mem hppos)
      rw [hnm] at ej
      have HX0 := Lib.hid (hC.isExt HX4.out (by simp; omega))
      have HR5 := Lib.hid (HR4.out.chg hC (by simp; omega))
      clear hwd hps hpp hnm hS hN hF hC hdw hB rx
      go_upto_region 6 with fail
      go_wp2_with fail
      refine (split_m 61 61 (by omega) (by decide)).mono ?_
      rintro e w5 ⟨vp, Fp, rfl, hx5, hSp, hFp⟩
      rw [HPS.out] at hSp
      obtain ⟨Ap, cp, rfl, _, _, rp⟩ := hSp.view sS_v
      clear hSp hFp
      by_cases hp2 : ps.length = 2
      · rw [if_pos hp2] at ej
        have q1 : ((ps.length : Int) != 2) = false := by simp [hp2]
        have h1p : 1 < ps.length := by omega
        obtain ⟨p2, hpp2⟩ : ∃ p, ps.getD 1 ⟨#[]⟩ = p := ⟨_, rfl⟩
        have e1p : ps[1] = p2 := by rw [← hpp2]; simp [List.getD_eq_getElem?_getD, h1p]
        have hps2 : p2.size ≤ wd.size := by rw [← e1p]; exact HPP.out _ (List.getElem_mem h1p)
        rw [hpp2] at ej
        obtain ⟨o9, ho9⟩ : ∃ o, pRel p2 = o := ⟨_, rfl⟩
        have HO9 := Lib.hid ho9
        rw [ho9] at ej
        have hX5 := Lib.hid (trans_ext HX0.out hx5)
        obtain ⟨bp, op, rfl, hbp, hcp⟩ := rp.atS h1p
        rw [e1p] at hcp
        have RP := Lib.hid rp
        clear hpp2 ho9 hp2 rp
        go_upto_region 9 with fail
        go_wp2_with fail
        refine (ParseRelation_any (by omega)).mono ?_
        rintro e w9 ⟨u9, v9, F9, rfl, hx9, hS9, hN9, hF9⟩
        rw [HO9.out] at hS9 ⊢
        obtain ⟨A9, c9, rfl, rfl, _⟩ := sRel_form hS9
        have R9 := HR5.out.toExt (trans_ext hx5 hx9)
        obtain ⟨lr9, r90, fr9⟩ := bx1 R9
        cases o9 with
        | none =>
          have HZ := Lib.hid (show pDb s = none by rw [HE.out, ← ej] <;> rfl)
          have hX := trans_ext hX5.out hx9
          simp only [Option.isSome_none, Option.getD_none] at hS9 ⊢
          clear ej hS9
          go_wp2
          refine bodyPost_ret (v := .tuple #[.agg #[.slice none 0 0], .bool false]) (by simp [results, Try.results29, go_sem, *]) rfl (dbRes_none HZ.out rfl (by refine Chg.isExt (F := []) ?_ (refl_ext _) (by simp); repeat (with_reducible (first | exact Chg.refl _ _ | exact Nat.le_refl _ | exact Chg.ofExt (by assumption) | refine Chg.trans0 ?_ (by assumption) | refine Chg.extS ?_ _ | refine Chg.alloc ?_ _ | refine Chg.drew ?_ | refine Chg.setCellE ?_ ?_ _ | refine le_addk ?_ _ | refine le_ext ?_ | refine le_alloc ?_ _ | refine le_setC ?_ _ _ | refine le_drew ?_ | assumption | (refine Nat.le_of_lt ?_; omega) | omega))))
        | some r =>
          simp only [Option.isSome_some, Option.getD_some] at hS9 ⊢
          have HEJ := Lib.hid ej
          have HTW := Lib.hid (TW.mk (s := nm) (by omega) (pRel_some HO9.out).1)
          have hx59 := trans_ext hx5 hx9
          have HRP := Lib.hid (RP.out.toExt hx9)
          clear ej
          go_upto_region 12 with fail
          refine wp_name ?_
          intro W6 hW6
          have x96 : ∃ y, W6 = ext w9 y := by rw [hW6.out]; exact (by refine Chg.isExt (F := []) ?_ (refl_ext _) (by simp); repeat (with_reducible (first | exact Chg.refl _ _ | exact Nat.le_refl _ | exact Chg.ofExt (by assumption) | refine Chg.trans0 ?_ (by assumption) | refine Chg.extS ?_ _ | refine Chg.alloc ?_ _ | refine Chg.drew ?_ | refine Chg.setCellE ?_ ?_ _ | refine le_addk ?_ _ | refine le_ext ?_ | refine le_alloc ?_ _ | refine le_setC ?_ _ _ | refine le_drew ?_ | assumption | (refine Nat.le_of_lt ?_; omega) | omega)))
          have T6 : BoxAt W6 w9.heap.size #[.int .i64 r.1, .slice A9 r.2.length c9] := by rw [hW6.out]; exact (by repeat (with_reducible (first | assumption | exact BoxAt.new _ _ _ | apply BoxAt.set2 | refine BoxAt.set2' ?_ (by omega) | apply BoxAt.setP0 | apply BoxAt.setP1 | refine BoxAt.setO ?_ (by omega) | refine BoxAt.alloc ?_ _ | refine BoxAt.drew ?_ | refine BoxAt.toExt ?_ (by assumption))))
          have x6 := trans_ext hx59 x96
          have HS9 : Hid (sRel W6 [.int .i64 r.1, .slice A9 r.2.length c9] r F9) := Lib.hid (OD.toExt hS9 x96)
          have hF9' : ∀ b ∈ F9, wr.heap.size ≤ b := fun b hb => Nat.le_trans (size_of_ext hx5) (hF9 b hb)
          have HNN := Lib.hid (nodup_more HN.out hN9 HSl.out hF9')
          have HF9 := Lib.hid (show ∀ b ∈ F9, w4.heap.size ≤ b from fun b hb => by have := hF9' b hb; omega)
          obtain ⟨bp', op', ep', hbp, hcp⟩ := (HRP.out.toExt x96).atS1 hppos HNM.out
          injection ep' with ep'
          injection ep' with ep1 ep2
          subst ep1 ep2
          obtain ⟨lt6, t60, t61, ft6⟩ := bx2 T6
          clear hW6 hS9 hN9 hF9 hF9' lr9 r90 fr9 R9 hx5 hx9 hx59 T6
          have B6 := HB.out.toExt x6
          have S6 := HS.out.toExt x6
          have hz6 := size_of_ext x6
          have HB6 := Lib.hid B6
          have HS6 := Lib.hid S6
          have HC6 := Lib.hid (HC.out.trans0 x6)
          have h7nF : b7 ∉ F := fun h => by have := HF.out b7 h; omega
          have hal2 : d.length + 1 ≤ 2000000000 := by omega
          obtain ⟨lb6, b6, fb6⟩ := bx1 B6
          clear B6 S6
          go_region_law (first
            | (refine step_appB (E := sTb) (d := (nm, r)) (G := F9) (cs := #[.string nm, .int .i64 r.1, .slice A9 r.2.length c9]) (by rfl) _ _ _ (by rfl) tTb (by rfl) (by rfl) (by exact BoxAt.new _ _ _) (sTb_mk (OD.toExt HS9.out (by refine Chg.isExt (F := []) ?_ (refl_ext _) (by simp); repeat (with_reducible (first | exact Chg.refl _ _ | exact Nat.le_refl _ | exact Chg.ofExt (by assumption) | refine Chg.trans0 ?_ (by assumption) | refine Chg.extS ?_ _ | refine Chg.alloc ?_ _ | refine Chg.drew ?_ | refine Chg.setCellE ?_ ?_ _ | refine le_addk ?_ _ | refine le_ext ?_ | refine le_alloc ?_ _ | refine le_setC ?_ _ _ | refine le_drew ?_ | assumption | (refine Nat.le_of_lt ?_; omega) | omega))))) (by rfl) (by simp [Value.oneCell']) (HS6.out.toExt (by refine Chg.isExt (F := []) ?_ (refl_ext _) (by simp); repeat (with_reducible (first | exact Chg.refl _ _ | exact Nat.le_refl _ | exact Chg.ofExt (by assumption) | refine Chg.trans0 ?_ (by assumption) | refine Chg.extS ?_ _ | refine Chg.alloc ?_ _ | refine Chg.drew ?_ | refine Chg.setCellE ?_ ?_ _ | refine le_addk ?_ _ | refine le_ext ?_ | refine le_alloc ?_ _ | refine le_setC ?_ _ _ | refine le_drew ?_ | assumption | (refine Nat.le_of_lt ?_; omega) | omega)))) HNN.out hal2 (by omega) ?_; intro v7 w7 F7 hS7 hC7 hN7 hF7; obtain ⟨A7, c7, rfl, _, _⟩ := hS7.form; have B7 := ((HB6.out.drew).alloc (.cells #[.string nm, .int .i64 r.1, .slice A9 r.2.length c9] 108)).chg hC7 h7nF; obtain ⟨l7, k7, f7⟩ := bx1 B7))
          all_goals
            have hF7n : ∀ b ∈ F7, w4.heap.size ≤ b := fun b hb => by
              rcases hF7 b hb with h | h | h
              · exact HF.out b h
              · have := HF9.out b h; omega
              · simp at h; omega
            have hCa := ((((HC6.out.drew).alloc (.cells #[.string nm, .int .i64 r.1, .slice A9 r.2.length c9] 108)).trans hC7 (fun x hx => .inr (HF.out x hx)))).setCell (p := ⟨b7, 0, none⟩) (.inl (by simp)) (.slice A7 (d ++ [(nm, r)]).length c7)
            have hSf := hS7.chg ((Chg.refl [b7] w7).setCell (p := ⟨b7, 0, none⟩) (.inl (by simp)) (.slice A7 (d ++ [(nm, r)]).length c7)) (fun b hb h => by have := hF7n b hb; rw [List.mem_singleton.1 h] at this; omega)
            have hBf := B7.set10 (u := .slice A7 (d ++ [(nm, r)]).length c7)
            have HH := Lib.hid (And.intro hSf (And.intro hBf (And.intro hCa hF7n)))
            have HN7 := Lib.hid hN7
            have HDf : Hid (∀ x ∈ d ++ [(nm, r)], TW x) := Lib.hid (fun x hx => by
              rcases List.mem_append.1 hx with h | h
              · exact HDW.out x h
              · rw [List.mem_singleton.1 h]; exact HTW.out)
            clear hCa hF7n hSf hBf hS7 hC7 hN7 hF7 B7
            go_wp2
            rw [show d.length + 1 = (d ++ [(nm, r)]).length by simp]
            exact ⟨⟨k + 1, d ++ [(nm, r)], A7, c7, F7, by go_num, by omega, HH.out.2.1, HH.out.1, HN7.out, HH.out.2.2.2, HH.out.2.2.1, by simp; omega, HDf.out, HEJ⟩, by simp [intOf]; omega⟩
      · rw [if_neg hp2] at ej
        have q1 : ((ps.length : Int) != 2) = true := by rw [bne_iff_ne]; omega
        have HZ := Lib.hid (show pDb s = none by rw [HE.out, ← ej] <;> rfl)
        have hX := trans_ext HX0.out hx5
        obtain ⟨lr9, r90, fr9⟩ := bx1 (HR5.out.toExt hx5)
        clear ej hp2
        go_wp2
        refine bodyPost_ret (v := .tuple #[.agg #[.slice none 0 0], .bool false]) (by simp [results, Try.results29, go_sem, *]) rfl (dbRes_none HZ.out rfl (by refine Chg.isExt (F := []) ?_ (refl_ext _) (by simp); repeat (with_reducible (first | exact Chg.refl _ _ | exact Nat.le_refl _ | exact Chg.ofExt (by assumption) | refine Chg.trans0 ?_ (by assumption) | refine Chg.extS ?_ _ | refine Chg.alloc ?_ _ | refine Chg.drew ?_ | refine Chg.setCellE ?_ ?_ _ | refine le_addk ?_ _ | refine le_ext ?_ | refine le_alloc ?_ _ | refine le_setC ?_ _ _ | refine le_drew ?_ | assumption | (refine Nat.le_of_lt ?_; omega) | omega))))
    · have ej := Hj.out
      rw [pdG_nil hlt] at ej
      have HE3 := Lib.hid (show pDb s = finD d s by rw [HE.out, ← ej] <;> rfl)
      have HXr := Lib.hid (hC.isExt HX4.out (by simp; omega))
      have HR5 := Lib.hid (HR4.out.chg hC (by simp; omega))
      have hz4w := size_of_ext HX4.out
      have HFN : Hid (∀ b ∈ F, w.heap.size < b) := Lib.hid (fun b hb => by have := HF.out b hb; omega)
      have HWD := Lib.hid (TW.wdb (by omega) hdw)
      have HQ : Hid (sDb wr [.slice A d.length c] d F) := Lib.hid ⟨_, rfl, HS.out⟩
      have HV := Lib.hid (vDb_get (sDb_v _ _ _ HQ.out)).2.1
      obtain ⟨l7, k7, f7⟩ := bx1 HB.out
      obtain ⟨l5, k5, f5⟩ := bx1 HR5.out
      clear ej hS hN hF hC hdw hB
      obtain ⟨t, ht⟩ : ∃ t, fmtD d = t := ⟨_, rfl⟩
      have HT := Lib.hid ht
      by_cases hts : t = s
      · have q8 := str_bnet hts
        have q9 := str_beqt hts
        have HE4 := Lib.hid (show pDb s = some d by rw [HE3.out]; unfold finD; rw [if_pos (ht.trans hts)])
        clear ht hts
        go_wp2_with (go_at_call 18; refine (FormatDatabase_any HWD.out HV.out).mono ?_; rintro e w8 ⟨rfl, hx8⟩; rw [HT.out]; obtain ⟨l8, k8, f8⟩ := bx1 (HB.out.toExt hx8); obtain ⟨l9, k9, f9⟩ := bx1 (HR5.out.toExt hx8))
        have hX := HXr.out
        have hQ8 : sDb w8 [.slice A d.length c] d F := OD.toExt HQ.out hx8
        refine bodyPost_ret (v := .tuple #[.agg #[.slice A d.length c], .bool true]) (by simp [results, Try.results29, go_sem, *]) rfl ⟨_, F, by rw [HE4.out]; rfl, (by refine Chg.isExt (F := []) ?_ (refl_ext _) (by simp); repeat (with_reducible (first | exact Chg.refl _ _ | exact Nat.le_refl _ | exact Chg.ofExt (by assumption) | refine Chg.trans0 ?_ (by assumption) | refine Chg.extS ?_ _ | refine Chg.alloc ?_ _ | refine Chg.drew ?_ | refine Chg.setCellE ?_ ?_ _ | refine le_addk ?_ _ | refine le_ext ?_ | refine le_alloc ?_ _ | refine le_setC ?_ _ _ | refine le_drew ?_ | assumption | (refine Nat.le_of_lt ?_; omega) | omega))), by rw [HE4.out]; exact OD.chg (G := [w.heap.size]) hQ8 (by repeat (with_reducible (first | exact Chg.refl _ _ | refine Chg.trans0 ?_ (by assumption) | refine Chg.extS ?_ _ | refine Chg.alloc ?_ _ | refine Chg.drew ?_ | refine Chg.setCell ?_ (.inl (by simp)) _))) (fun b hb h => by have := HFN.out b hb; rw [List.mem_singleton.1 h] at this; omega), HN.out, fun b hb => Nat.le_of_lt (HFN.out b hb)⟩
      · have q8 := str_bnef hts
        have q9 := str_beqf hts
        have HZ := Lib.hid (show pDb s = none by rw [HE3.out]; unfold finD; rw [if_neg (fun h => hts (ht.symm.trans h))])
        clear ht hts
        go_wp2_with (go_at_call 18; refine (FormatDatabase_any HWD.out HV.out).mono ?_; rintro e w8 ⟨rfl, hx8⟩; rw [HT.out]; obtain ⟨l8, k8, f8⟩ := bx1 (HB.out.toExt hx8); obtain ⟨l9, k9, f9⟩ := bx1 (HR5.out.toExt hx8))
        have hX := HXr.out
        refine bodyPost_ret (v := .tuple #[.agg #[.slice none 0 0], .bool false]) (by simp [results, Try.results29, go_sem, *]) rfl (dbRes_none HZ.out rfl (by refine Chg.isExt (F := []) ?_ (refl_ext _) (by simp); repeat (with_reducible (first | exact Chg.refl _ _ | exact Nat.le_refl _ | exact Chg.ofExt (by assumption) | refine Chg.trans0 ?_ (by assumption) | refine Chg.extS ?_ _ | refine Chg.alloc ?_ _ | refine Chg.drew ?_ | refine Chg.setCellE ?_ ?_ _ | refine le_addk ?_ _ | refine le_ext ?_ | refine le_alloc ?_ _ | refine le_setC ?_ _ _ | refine le_drew ?_ | assumption | (refine Nat.le_of_lt ?_; omega) | omega))))
set_option maxRecDepth 100000 in
set_option maxHeartbeats 16000000 in
theorem specParseDatabase_any {s : ByteArray} {w : World} (hs : s.size ≤ 1048576) : Calls Try.prog 28 #[.string s] w (DbRes (pDb s) w) := by
  have hpos := splB_pos 10 s
  obtain ⟨ws, hws⟩ : ∃ ws, splB 10 s = ws := ⟨_, rfl⟩
  have HW := Lib.hid hws
  have hwl : ws.length ≤ s.size + 1 := by rw [← hws]; exact splB_length 10 s
  have HWP : Hid (∀ x ∈ ws, x.size ≤ s.size) := Lib.hid (by rw [← hws]; exact fun x hx => splB_piece hx)
  rw [hws] at hpos
  obtain ⟨ls, hls⟩ : ∃ ls, ws.dropLast = ls := ⟨_, rfl⟩
  have hll : ls.length = ws.length - 1 := by rw [← hls]; simp
  have HLS : Hid (∀ k (h : k < ls.length) (h2 : k < ws.length), ls[k] = ws[k]) := Lib.hid (by subst hls; exact fun k h h2 => dropLast_at h h2)
  have HE := Lib.hid (pDb_t hws hls)
  clear hws hls
  go_enter Try.func28, Try.ntmps28
  go_upto_region 1 with fail
  refine wp_name ?_
  intro W hW
  have xW : ∃ y, W = ext w y := by rw [hW.out]; exact (by refine Chg.isExt (F := []) ?_ (refl_ext _) (by simp); repeat (with_reducible (first | exact Chg.refl _ _ | exact Nat.le_refl _ | exact Chg.ofExt (by assumption) | refine Chg.trans0 ?_ (by assumption) | refine Chg.extS ?_ _ | refine Chg.alloc ?_ _ | refine Chg.drew ?_ | refine Chg.setCellE ?_ ?_ _ | refine le_addk ?_ _ | refine le_ext ?_ | refine le_alloc ?_ _ | refine le_setC ?_ _ _ | refine le_drew ?_ | assumption | (refine Nat.le_of_lt ?_; omega) | omega)))
  have BW0 : BoxAt W (w.heap.size) #[.slice none 0 0] := by rw [hW.out]; refine ⟨?_, fun j => ?_, fun j => ?_⟩ <;> go_simp
  obtain ⟨lW0, bW0, fW0⟩ := BW0
  have cW0_0 : W.cell? ⟨w.heap.size, 0, none⟩ = some (.slice none 0 0) := bW0 0
  clear hW
  have RW : BoxAt W w.heap.size #[.slice none 0 0] := ⟨lW0, bW0, fW0⟩
  clear bW0 fW0 cW0_0
  go_upto_region 2 with fail
  refine wp_name ?_
  intro W2 hW2
  have x2 : ∃ y, W2 = ext W y := by rw [hW2.out]; exact (by refine Chg.isExt (F := []) ?_ (refl_ext _) (by simp); repeat (with_reducible (first | exact Chg.refl _ _ | exact Nat.le_refl _ | exact Chg.ofExt (by assumption) | refine Chg.trans0 ?_ (by assumption) | refine Chg.extS ?_ _ | refine Chg.alloc ?_ _ | refine Chg.drew ?_ | refine Chg.setCellE ?_ ?_ _ | refine le_addk ?_ _ | refine le_ext ?_ | refine le_alloc ?_ _ | refine le_setC ?_ _ _ | refine le_drew ?_ | assumption | (refine Nat.le_of_lt ?_; omega) | omega)))
  have B2 : BoxAt W2 W.heap.size #[.slice none 0 0] := by rw [hW2.out]; exact (by repeat (with_reducible (first | assumption | exact BoxAt.new _ _ _ | apply BoxAt.set10 | apply BoxAt.set2 | refine BoxAt.set2' ?_ (by omega) | apply BoxAt.setP0 | apply BoxAt.setP1 | refine BoxAt.setO ?_ (by omega) | refine BoxAt.alloc ?_ _ | refine BoxAt.drew ?_ | refine BoxAt.toExt ?_ (by assumption))))
  have hb7 : w.heap.size < W.heap.size := lW0
  obtain ⟨b7, q7⟩ : ∃ b, W.heap.size = b := ⟨_, rfl⟩
  rw [q7] at B2 hb7 ⊢
  have R2 := RW.toExt x2
  have hx02 := trans_ext xW x2
  have hb72 : b7 < W2.heap.size := B2.1
  clear hW2 q7 RW lW0 x2 xW
  go_wp2_with fail
  refine (l5Cut_m 10 10 (by omega) (by decide)).mono ?_
  rintro e w4 ⟨vx, Fx, rfl, hx4, hSx, hFx⟩
  rw [HW.out] at hSx
  obtain ⟨Ax, cx, rfl, hxc, hxm⟩ := hSx.form
  have HB74 := Lib.hid (B2.toExt hx4)
  have HR4 := Lib.hid (R2.toExt hx4)
  have HX4 := Lib.hid (trans_ext hx02 hx4)
  have hz4 := size_of_ext hx4
  have H7x : Hid (∀ b ∈ Fx, b ∉ [b7]) := Lib.hid (fun b hb h => by have := hFx b hb; rw [List.mem_singleton.1 h] at this; omega)
  have HSx := Lib.hid hSx
  have h74 : b7 < w4.heap.size := HB74.out.1
  clear hSx hFx B2 R2 hx02 hx4
  go_wp2_with fail
  go_loopw [6] (fun i wr => ∃ (k : Nat) (d : Dbd) (A : Option Addr) (c : Nat) (F : List Nat), i = .int .i64 k ∧ k ≤ ls.length ∧ BoxAt wr b7 #[.slice A d.length c] ∧ SV 108 3 sTb wr (.slice A d.length c) d F ∧ F.Nodup ∧ (∀ b ∈ F, w4.heap.size ≤ b) ∧ Chg [b7] w4 wr ∧ d.length ≤ k ∧ (∀ x ∈ d, TW x) ∧ Hid (pdS d (ls.drop k) = pdS [] ls)) (fun i _ => ls.length - (intOf i).toNat)
  case atStart => exact ⟨0, [], none, 0, [], rfl, by omega, HB74.out, SV.nil, by simp, by simp, Chg.refl _ _, by simp, by simp, Lib.hid rfl⟩
  case round =>
    obtain ⟨k, d, A, c, F, rfl, hk, hB, hS, hN, hF, hC, hdl, hdw, Hj⟩ := hrel
    have HS := Lib.hid hS
    have HSl := Lib.hid hS.lt
    have HN := Lib.hid hN
    have HF := Lib.hid hF
    have HC := Lib.hid hC
    have HDW := Lib.hid hdw
    have HB := Lib.hid hB
    have h7r : b7 < wr.heap.size := hB.1
    have hzc := hC.size
    by_cases hlt : k < ls.length
    · have hlt2 : k < ws.length := by omega
      obtain ⟨_, _, e5, _, _, rx⟩ := (HSx.out.chg hC H7x.out).view sS_v
      injection e5 with e5 _ e6
      subst e5 e6
      obtain ⟨bx, ox, rfl, hbx, hcx⟩ := rx.atS hlt2
      have ej := Hj.out
      rw [pdS_at hlt, HLS.out k hlt hlt2] at ej
      obtain ⟨wd, hwd⟩ : ∃ x, ws[k] = x := ⟨_, rfl⟩
      have hwdp : wd.size ≤ s.size := by rw [← hwd]; exact HWP.out _ (List.getElem_mem hlt2)
      rw [hwd] at ej hcx
      obtain ⟨ps, hps⟩ : ∃ ps, splB 61 wd = ps := ⟨_, rfl⟩
      have hppos := splB_pos 61 wd
      have hpl : ps.length ≤ wd.size + 1 := by rw [← hps]; exact splB_length 61 wd
      have hpp : ∀ x ∈ ps, x.size ≤ wd.size := by rw [← hps]; exact fun x hx => splB_piece hx
      rw [hps] at ej hppos
      have HPS := Lib.hid hps
      have HPP := Lib.hid hpp
      obtain ⟨nm, hnm⟩ : ∃ x, ps.getD 0 ⟨#[]⟩ = x := ⟨_, rfl⟩
      have HNM := Lib.hid hnm
      have hnms : nm.size ≤ wd.size := by
        rw [← hnm, show ps.getD 0 ⟨#[]⟩ = ps[0] by simp [List.getD_eq_getElem?_getD, hppos]]
        exact hpp _ (List.getElem_mem hppos)
      rw [hnm] at ej
      have HX0 := Lib.hid (hC.isExt HX4.out (by simp; omega))
      have HR5 := Lib.hid (HR4.out.chg hC (by simp; omega))
      clear hwd hps hpp hnm hS hN hF hC hdw hB rx
      go_wp2_with fail
      refine (l5Cut_m 61 61 (by omega) (by decide)).mono ?_
      rintro e w5 ⟨vp, Fp, rfl, hx5, hSp, hFp⟩
      rw [HPS.out] at hSp
      obtain ⟨Ap, cp, rfl, _, _, rp⟩ := hSp.view sS_v
      clear hSp hFp
      have hlp : ps.length - 1 < ps.length := by omega
      obtain ⟨p2, hpp2⟩ : ∃ p, lastB ps = p := ⟨_, rfl⟩
      have e1p : ps[ps.length - 1] = p2 := by rw [← hpp2]; unfold lastB; simp [List.getD_eq_getElem?_getD, hlp]
      have hps2 : p2.size ≤ wd.size := by rw [← e1p]; exact HPP.out _ (List.getElem_mem hlp)
      rw [hpp2] at ej
      obtain ⟨o9, ho9⟩ : ∃ o, pRel p2 = o := ⟨_, rfl⟩
      have HO9 := Lib.hid ho9
      rw [ho9] at ej
      have hX5 := Lib.hid (trans_ext HX0.out hx5)
      obtain ⟨bp, op, rfl, hbp, hcp⟩ := rp.atS hlp
      rw [e1p] at hcp
      have RP := Lib.hid rp
      clear hpp2 ho9 rp e1p
      go_wp2_with fail
      refine (specParseRelation_any (by omega)).mono ?_
      rintro e w9 ⟨u9, v9, F9, rfl, hx9, hS9, hN9, hF9⟩
      rw [HO9.out] at hS9 ⊢
      obtain ⟨A9, c9, rfl, rfl, _⟩ := sRel_form hS9
      have R9 := HR5.out.toExt (trans_ext hx5 hx9)
      obtain ⟨lr9, r90, fr9⟩ := bx1 R9
      cases o9 with
      | none =>
        have HZ := Lib.hid (show pDb s = none by rw [HE.out, ← ej] <;> rfl)
        have hX := trans_ext hX5.out hx9
        simp only [Option.isSome_none, Option.getD_none] at hS9 ⊢
        clear ej hS9
        go_wp2
        refine bodyPost_ret (v := .tuple #[.agg #[.slice none 0 0], .bool false]) (by simp [results, Try.results28, go_sem, *]) rfl (dbRes_none HZ.out rfl (by refine Chg.isExt (F := []) ?_ (refl_ext _) (by simp); repeat (with_reducible (first | exact Chg.refl _ _ | exact Nat.le_refl _ | exact Chg.ofExt (by assumption) | refine Chg.trans0 ?_ (by assumption) | refine Chg.extS ?_ _ | refine Chg.alloc ?_ _ | refine Chg.drew ?_ | refine Chg.setCellE ?_ ?_ _ | refine le_addk ?_ _ | refine le_ext ?_ | refine le_alloc ?_ _ | refine le_setC ?_ _ _ | refine le_drew ?_ | assumption | (refine Nat.le_of_lt ?_; omega) | omega))))
      | some r =>
        simp only [Option.isSome_some, Option.getD_some] at hS9 ⊢
        have HEJ := Lib.hid ej
        have HTW := Lib.hid (TW.mk (s := nm) (by omega) (pRel_some HO9.out).1)
        have hx59 := trans_ext hx5 hx9
        have HRP := Lib.hid (RP.out.toExt hx9)
        clear ej
        go_upto_region 10 with fail
        refine wp_name ?_
        intro W6 hW6
        have x96 : ∃ y, W6 = ext w9 y := by rw [hW6.out]; exact (by refine Chg.isExt (F := []) ?_ (refl_ext _) (by simp); repeat (with_reducible (first | exact Chg.refl _ _ | exact Nat.le_refl _ | exact Chg.ofExt (by assumption) | refine Chg.trans0 ?_ (by assumption) | refine Chg.extS ?_ _ | refine Chg.alloc ?_ _ | refine Chg.drew ?_ | refine Chg.setCellE ?_ ?_ _ | refine le_addk ?_ _ | refine le_ext ?_ | refine le_alloc ?_ _ | refine le_setC ?_ _ _ | refine le_drew ?_ | assumption | (refine Nat.le_of_lt ?_; omega) | omega)))
        have T6 : BoxAt W6 w9.heap.size #[.int .i64 r.1, .slice A9 r.2.length c9] := by rw [hW6.out]; exact (by repeat (with_reducible (first | assumption | exact BoxAt.new _ _ _ | apply BoxAt.set2 | refine BoxAt.set2' ?_ (by omega) | apply BoxAt.setP0 | apply BoxAt.setP1 | refine BoxAt.setO ?_ (by omega) | refine BoxAt.alloc ?_ _ | refine BoxAt.drew ?_ | refine BoxAt.toExt ?_ (by assumption))))
        have x6 := trans_ext hx59 x96
        have HS9 : Hid (sRel W6 [.int .i64 r.1, .slice A9 r.2.length c9] r F9) := Lib.hid (OD.toExt hS9 x96)
        have hF9' : ∀ b ∈ F9, wr.heap.size ≤ b := fun b hb => Nat.le_trans (size_of_ext hx5) (hF9 b hb)
        have HNN := Lib.hid (nodup_more HN.out hN9 HSl.out hF9')
        have HF9 := Lib.hid (show ∀ b ∈ F9, w4.heap.size ≤ b from fun b hb => by have := hF9' b hb; omega)
        obtain ⟨bp', op', ep', hbp, hcp⟩ := (HRP.out.toExt x96).atS1 hppos HNM.out
        injection ep' with ep'
        injection ep' with ep1 ep2
        subst ep1 ep2
        obtain ⟨lt6, t60, t61, ft6⟩ := bx2 T6
        clear hW6 hS9 hN9 hF9 hF9' lr9 r90 fr9 R9 hx5 hx9 hx59 T6
        have B6 := HB.out.toExt x6
        have S6 := HS.out.toExt x6
        have hz6 := size_of_ext x6
        have HB6 := Lib.hid B6
        have HS6 := Lib.hid S6
        have HC6 := Lib.hid (HC.out.trans0 x6)
        have h7nF : b7 ∉ F := fun h => by have := HF.out b7 h; omega
        have hal2 : d.length + 1 ≤ 2000000000 := by omega
        obtain ⟨lb6, b6, fb6⟩ := bx1 B6
        clear B6 S6
        go_region_law (first
          | (refine step_appB (E := sTb) (d := (nm, r)) (G := F9) (cs := #[.string nm, .int .i64 r.1, .slice A9 r.2.length c9]) (by rfl) _ _ _ (by rfl) tTb (by rfl) (by rfl) (by exact BoxAt.new _ _ _) (sTb_mk (OD.toExt HS9.out (by refine Chg.isExt (F := []) ?_ (refl_ext _) (by simp); repeat (with_reducible (first | exact Chg.refl _ _ | exact Nat.le_refl _ | exact Chg.ofExt (by assumption) | refine Chg.trans0 ?_ (by assumption) | refine Chg.extS ?_ _ | refine Chg.alloc ?_ _ | refine Chg.drew ?_ | refine Chg.setCellE ?_ ?_ _ | refine le_addk ?_ _ | refine le_ext ?_ | refine le_alloc ?_ _ | refine le_setC ?_ _ _ | refine le_drew ?_ | assumption | (refine Nat.le_of_lt ?_; omega) | omega))))) (by rfl) (by simp [Value.oneCell']) (HS6.out.toExt (by refine Chg.isExt (F := []) ?_ (refl_ext _) (by simp); repeat (with_reducible (first | exact Chg.refl _ _ | exact Nat.le_refl _ | exact Chg.ofExt (by assumption) | refine Chg.trans0 ?_ (by assumption) | refine Chg.extS ?_ _ | refine Chg.alloc ?_ _ | refine Chg.drew ?_ | refine Chg.setCellE ?_ ?_ _ | refine le_addk ?_ _ | refine le_ext ?_ | refine le_alloc ?_ _ | refine le_setC ?_ _ _ | refine le_drew ?_ | assumption | (refine Nat.le_of_lt ?_; omega) | omega)))) HNN.out hal2 (by omega) ?_; intro v7 w7 F7 hS7 hC7 hN7 hF7; obtain ⟨A7, c7, rfl, _, _⟩ := hS7.form; have B7 := ((HB6.out.drew).alloc (.cells #[.string nm, .int .i64 r.1, .slice A9 r.2.length c9] 108)).chg hC7 h7nF; obtain ⟨l7, k7, f7⟩ := bx1 B7))
        all_goals
          have hF7n : ∀ b ∈ F7, w4.heap.size ≤ b := fun b hb => by
            rcases hF7 b hb with h | h | h
            · exact HF.out b h
            · have := HF9.out b h; omega
            · simp at h; omega
          have hCa := ((((HC6.out.drew).alloc (.cells #[.string nm, .int .i64 r.1, .slice A9 r.2.length c9] 108)).trans hC7 (fun x hx => .inr (HF.out x hx)))).setCell (p := ⟨b7, 0, none⟩) (.inl (by simp)) (.slice A7 (d ++ [(nm, r)]).length c7)
          have hSf := hS7.chg ((Chg.refl [b7] w7).setCell (p := ⟨b7, 0, none⟩) (.inl (by simp)) (.slice A7 (d ++ [(nm, r)]).length c7)) (fun b hb h => by have := hF7n b hb; rw [List.mem_singleton.1 h] at this; omega)
          have hBf := B7.set10 (u := .slice A7 (d ++ [(nm, r)]).length c7)
          have HH := Lib.hid (And.intro hSf (And.intro hBf (And.intro hCa hF7n)))
          have HN7 := Lib.hid hN7
          have HDf : Hid (∀ x ∈ d ++ [(nm, r)], TW x) := Lib.hid (fun x hx => by
            rcases List.mem_append.1 hx with h | h
            · exact HDW.out x h
            · rw [List.mem_singleton.1 h]; exact HTW.out)
          clear hCa hF7n hSf hBf hS7 hC7 hN7 hF7 B7
          go_wp2
          rw [show d.length + 1 = (d ++ [(nm, r)]).length by simp]
          exact ⟨⟨k + 1, d ++ [(nm, r)], A7, c7, F7, by go_num, by omega, HH.out.2.1, HH.out.1, HN7.out, HH.out.2.2.2, HH.out.2.2.1, by simp; omega, HDf.out, HEJ⟩, by simp [intOf]; omega⟩
    · have ej := Hj.out
      rw [pdS_nil hlt] at ej
      have HE3 := Lib.hid (show pDb s = (if dbB d = true ∧ fmtD d = s then some d else none) by rw [HE.out, ← ej] <;> rfl)
      have HXr := Lib.hid (hC.isExt HX4.out (by simp; omega))
      have HR5 := Lib.hid (HR4.out.chg hC (by simp; omega))
      have hz4w := size_of_ext HX4.out
      have HFN : Hid (∀ b ∈ F, w.heap.size < b) := Lib.hid (fun b hb => by have := HF.out b hb; omega)
      have HWD := Lib.hid (TW.wdb (by omega) hdw)
      have HQ : Hid (sDb wr [.slice A d.length c] d F) := Lib.hid ⟨_, rfl, HS.out⟩
      have HV := Lib.hid (vDb_get (sDb_v _ _ _ HQ.out)).2.1
      obtain ⟨l7, k7, f7⟩ := bx1 HB.out
      obtain ⟨l5, k5, f5⟩ := bx1 HR5.out
      clear ej hS hN hF hC hdw hB
      obtain ⟨tv, htv⟩ : ∃ t, dbB d = t := ⟨_, rfl⟩
      have HTV := Lib.hid htv
      cases tv with
      | false =>
        have HZ := Lib.hid (show pDb s = none by rw [HE3.out, htv, if_neg (fun h => by cases h.1)])
        clear htv
        go_wp2_with (go_at_call 60; refine (specIsValidDatabase_w HWD.out HV.out).mono ?_; rintro e w8 ⟨rfl, hx8⟩; rw [HTV.out]; obtain ⟨l8, k8, f8⟩ := bx1 (HB.out.toExt hx8); obtain ⟨l9, k9, f9⟩ := bx1 (HR5.out.toExt hx8))
        have hX := HXr.out
        refine bodyPost_ret (v := .tuple #[.agg #[.slice none 0 0], .bool false]) (by simp [results, Try.results28, go_sem, *]) rfl (dbRes_none HZ.out rfl (by refine Chg.isExt (F := []) ?_ (refl_ext _) (by simp); repeat (with_reducible (first | exact Chg.refl _ _ | exact Nat.le_refl _ | exact Chg.ofExt (by assumption) | refine Chg.trans0 ?_ (by assumption) | refine Chg.extS ?_ _ | refine Chg.alloc ?_ _ | refine Chg.drew ?_ | refine Chg.setCellE ?_ ?_ _ | refine le_addk ?_ _ | refine le_ext ?_ | refine le_alloc ?_ _ | refine le_setC ?_ _ _ | refine le_drew ?_ | assumption | (refine Nat.le_of_lt ?_; omega) | omega))))
      | true =>
        obtain ⟨t, ht⟩ : ∃ t, fmtD d = t := ⟨_, rfl⟩
        have HT := Lib.hid ht
        by_cases hts : t = s
        · have q8 := str_bnet hts
          have q9 := str_beqt hts
          have HE4 := Lib.hid (show pDb s = some d by rw [HE3.out, if_pos ⟨htv, ht.trans hts⟩])
          clear ht hts htv
          go_wp2_with (first
            | (go_at_call 60; refine (specIsValidDatabase_w HWD.out HV.out).mono ?_; rintro e w7 ⟨rfl, hx7⟩; rw [HTV.out]; obtain ⟨m8, n8, g8⟩ := bx1 (HB.out.toExt hx7); have hv7 := HV.out.toExt hx7)
            | (go_at_call 16; refine (specFormatDatabase_any HWD.out hv7).mono ?_; rintro e w8 ⟨rfl, hx8'⟩; rw [HT.out]; have hx8 := trans_ext hx7 hx8'; obtain ⟨l8, k8, f8⟩ := bx1 (HB.out.toExt hx8); obtain ⟨l9, k9, f9⟩ := bx1 (HR5.out.toExt hx8)))
          have hX := HXr.out
          have hQ8 : sDb w8 [.slice A d.length c] d F := OD.toExt HQ.out hx8
          refine bodyPost_ret (v := .tuple #[.agg #[.slice A d.length c], .bool true]) (by simp [results, Try.results28, go_sem, *]) rfl ⟨_, F, by rw [HE4.out]; rfl, (by refine Chg.isExt (F := []) ?_ (refl_ext _) (by simp); repeat (with_reducible (first | exact Chg.refl _ _ | exact Nat.le_refl _ | exact Chg.ofExt (by assumption) | refine Chg.trans0 ?_ (by assumption) | refine Chg.extS ?_ _ | refine Chg.alloc ?_ _ | refine Chg.drew ?_ | refine Chg.setCellE ?_ ?_ _ | refine le_addk ?_ _ | refine le_ext ?_ | refine le_alloc ?_ _ | refine le_setC ?_ _ _ | refine le_drew ?_ | assumption | (refine Nat.le_of_lt ?_; omega) | omega))), by rw [HE4.out]; exact OD.chg (G := [w.heap.size]) hQ8 (by repeat (with_reducible (first | exact Chg.refl _ _ | refine Chg.trans0 ?_ (by assumption) | refine Chg.extS ?_ _ | refine Chg.alloc ?_ _ | refine Chg.drew ?_ | refine Chg.setCell ?_ (.inl (by simp)) _))) (fun b hb h => by have := HFN.out b hb; rw [List.mem_singleton.1 h] at this; omega), HN.out, fun b hb => Nat.le_of_lt (HFN.out b hb)⟩
        · have q8 := str_bnef hts
          have q9 := str_beqf hts
          have HZ := Lib.hid (show pDb s = none by rw [HE3.out, if_neg (fun h => hts (ht.symm.trans h.2))])
          clear ht hts htv
          go_wp2_with (first
            | (go_at_call 60; refine (specIsValidDatabase_w HWD.out HV.out).mono ?_; rintro e w7 ⟨rfl, hx7⟩; rw [HTV.out]; obtain ⟨m8, n8, g8⟩ := bx1 (HB.out.toExt hx7); have hv7 := HV.out.toExt hx7)
            | (go_at_call 16; refine (specFormatDatabase_any HWD.out hv7).mono ?_; rintro e w8 ⟨rfl, hx8'⟩; rw [HT.out]; have hx8 := trans_ext hx7 hx8'; obtain ⟨l8, k8, f8⟩ := bx1 (HB.out.toExt hx8); obtain ⟨l9, k9, f9⟩ := bx1 (HR5.out.toExt hx8)))
          have hX := HXr.out
          refine bodyPost_ret (v := .tuple #[.agg #[.slice none 0 0], .bool false]) (by simp [results, Try.results28, go_sem, *]) rfl (dbRes_none HZ.out rfl (by refine Chg.isExt (F := []) ?_ (refl_ext _) (by simp); repeat (with_reducible (first | exact Chg.refl _ _ | exact Nat.le_refl _ | exact Chg.ofExt (by assumption) | refine Chg.trans0 ?_ (by assumption) | refine Chg.extS ?_ _ | refine Chg.alloc ?_ _ | refine Chg.drew ?_ | refine Chg.setCellE ?_ ?_ _ | refine le_addk ?_ _ | refine le_ext ?_ | refine le_alloc ?_ _ | refine le_setC ?_ _ _ | refine le_drew ?_ | assumption | (refine Nat.le_of_lt ?_; omega) | omega))))
end Go.Proofs.Ytfigcfajkilhiaa

/- A table put into a database: where it goes, and what it holds then. No program in it. -/
namespace Go.Proofs.Ytfigcfajkilhiaa
open Go.RowKit

theorem ins_at {name : ByteArray} {r : Rd} : ∀ {k : Nat} {d : Dbd}, k ≤ d.length → (∀ j, j < k → sLt (d.getD j zT).1 name = true) → insT name r d = d.take k ++ insT name r (d.drop k)
  | 0, d, _, _ => by simp
  | k + 1, [], h, _ => by simp at h
  | k + 1, t :: d, h, hl => by
    have h0 := hl 0 (by omega)
    rw [insT, if_pos (by simpa using h0), List.take_succ_cons, List.drop_succ_cons, List.cons_append, ← ins_at (d := d) (by simpa using h) fun j hj => by simpa using hl (j + 1) (by omega)]
theorem ins_end {name : ByteArray} {r : Rd} {k : Nat} {d : Dbd} (h : k = d.length) (hl : ∀ j, j < k → sLt (d.getD j zT).1 name = true) : insT name r d = d.take k ++ [(name, r)] ++ d.drop k := by
  subst h
  rw [ins_at (Nat.le_refl _) hl, List.drop_length, insT]
  simp
theorem ins_hit {name : ByteArray} {r : Rd} {k : Nat} {d : Dbd} (h : k < d.length) (hl : ∀ j, j < k → sLt (d.getD j zT).1 name = true) (he : d[k].1 = name) : insT name r d = d.set k (name, r) := by
  rw [ins_at (Nat.le_of_lt h) hl, List.drop_eq_getElem_cons h, insT, if_neg (by rw [he, sLt_irr]; decide), if_pos he, List.set_eq_take_append_cons_drop, if_pos h]
theorem ins_new {name : ByteArray} {r : Rd} {k : Nat} {d : Dbd} (h : k < d.length) (hl : ∀ j, j < k → sLt (d.getD j zT).1 name = true) (hn : sLt d[k].1 name = false) (he : d[k].1 ≠ name) : insT name r d = d.take k ++ [(name, r)] ++ d.drop k := by
  rw [ins_at (Nat.le_of_lt h) hl, List.drop_eq_getElem_cons h, insT, if_neg (by simp [hn]), if_neg he]
  simp
theorem insT_length (name : ByteArray) (r : Rd) : ∀ d : Dbd, (insT name r d).length ≤ d.length + 1
  | [] => by simp [insT]
  | t :: d => by
    have := insT_length name r d
    rw [insT]
    split
    · simp; omega
    · split <;> simp
theorem mem_insT {name : ByteArray} {r : Rd} {x : Td} : ∀ {d : Dbd}, x ∈ insT name r d → x = (name, r) ∨ x ∈ d
  | [], h => by simpa [insT] using h
  | t :: d, h => by
    rw [insT] at h
    split at h
    · rcases List.mem_cons.1 h with e | e
      · exact .inr (by simp [e])
      · rcases mem_insT e with e | e
        · exact .inl e
        · exact .inr (by simp [e])
    · split at h
      · rcases List.mem_cons.1 h with e | e
        · exact .inl e
        · exact .inr (by simp [e])
      · rcases List.mem_cons.1 h with e | e
        · exact .inl e
        · exact .inr e
theorem setD_bad {d : Dbd} {name : ByteArray} {r : Rd} (h : dbB d = false) : setD d name r = (d, false) := by
  unfold setD
  rw [if_neg (by simp [h])]
theorem setD_no {d : Dbd} {name : ByteArray} {r : Rd} (h : dbB (insT name r d) = false) : setD d name r = (d, false) := by
  unfold setD
  rw [if_neg (by simp [h])]
theorem setD_yes {d : Dbd} {name : ByteArray} {r : Rd} (h : dbB d = true) (h2 : dbB (insT name r d) = true) : setD d name r = (insT name r d, true) := by
  unfold setD
  rw [if_pos ⟨h, h2⟩]
/-! the reference's way, table by table -/
def sAdd (name : ByteArray) (r : Rd) (put : Bool) (t : Td) : Dbd := (if put = false ∧ sLt t.1 name = false then [(name, r)] else []) ++ (if t.1 = name then [] else [t])
def sPre (name : ByteArray) (r : Rd) : Bool → Dbd → Dbd × Bool
  | put, [] => ([], put)
  | put, t :: d => (sAdd name r put t ++ (sPre name r (put || !sLt t.1 name) d).1, (sPre name r (put || !sLt t.1 name) d).2)
theorem sIns_pre {name : ByteArray} {r : Rd} : ∀ {put : Bool} {d : Dbd}, sIns name r put d = (sPre name r put d).1 ++ (if (sPre name r put d).2 = true then [] else [(name, r)])
  | put, [] => by cases put <;> simp [sIns, sPre]
  | put, t :: d => by
    rw [sIns, sPre, sIns_pre (d := d)]
    simp [sAdd]
theorem sPre_snoc {name : ByteArray} {r : Rd} {t : Td} : ∀ {put : Bool} {d : Dbd}, sPre name r put (d ++ [t]) = ((sPre name r put d).1 ++ sAdd name r (sPre name r put d).2 t, (sPre name r put d).2 || !sLt t.1 name)
  | put, [] => by simp [sPre]
  | put, u :: d => by
    rw [List.cons_append, sPre, sPre_snoc (d := d), sPre]
    simp
theorem sPre_take {name : ByteArray} {r : Rd} {d : Dbd} {k : Nat} (h : k < d.length) : sPre name r false (d.take (k + 1)) = ((sPre name r false (d.take k)).1 ++ sAdd name r (sPre name r false (d.take k)).2 d[k], (sPre name r false (d.take k)).2 || !sLt d[k].1 name) := by
  rw [List.take_succ_eq_append_getElem h, sPre_snoc]
theorem sPre_length {name : ByteArray} {r : Rd} : ∀ {put : Bool} {d : Dbd}, (sPre name r put d).1.length + (if put = true then 1 else 0) ≤ d.length + 1
  | put, [] => by simp [sPre]; split <;> omega
  | put, t :: d => by
    have := sPre_length (name := name) (r := r) (put := put || !sLt t.1 name) (d := d)
    rw [sPre]
    unfold sAdd
    simp only [List.length_append, List.length_cons]
    by_cases he : t.1 = name
    · rw [he, sLt_irr] at this ⊢
      cases put <;> simp at this ⊢ <;> omega
    · cases put <;> cases hs : sLt t.1 name <;> simp [hs, he] at this ⊢ <;> omega
theorem mem_sPre {name : ByteArray} {r : Rd} {x : Td} : ∀ {put : Bool} {d : Dbd}, x ∈ (sPre name r put d).1 → x = (name, r) ∨ x ∈ d
  | put, [], h => by simp [sPre] at h
  | put, t :: d, h => by
    rw [sPre] at h
    rcases List.mem_append.1 h with h | h
    · unfold sAdd at h
      rcases List.mem_append.1 h with h | h
      · split at h
        · exact .inl (List.mem_singleton.1 h)
        · cases h
      · split at h
        · cases h
        · exact .inr (by simp [List.mem_singleton.1 h])
    · rcases mem_sPre h with e | e
      · exact .inl e
      · exact .inr (by simp [e])
/-- the reference's test gives the same, whatever the database -/
theorem setD_ref {d : Dbd} {name : ByteArray} {r : Rd} : setD d name r = if dbB d = true ∧ dbB (sIns name r false d) = true then (sIns name r false d, true) else (d, false) := by
  by_cases h : dbB d = true
  · rw [sIns_eq (dbB_iff.1 h).2.2]
    rfl
  · rw [setD_bad (by simpa using h), if_neg (fun k => h k.1)]
end Go.Proofs.Ytfigcfajkilhiaa

/- Bounds of databases that are made. -/
namespace Go.Proofs.Ytfigcfajkilhiaa
open Go.RowKit
theorem sumT_le {m : Nat} : ∀ {l : Dbd}, (∀ x ∈ l, cTb x ≤ m) → (l.map cTb).sum ≤ m * l.length
  | [], _ => by simp
  | x :: l, h => by
    have h1 := h x (by simp)
    have h2 := sumT_le (l := l) fun y hy => h y (by simp [hy])
    rw [List.map_cons, List.sum_cons, List.length_cons, Nat.mul_add]
    omega
theorem sumL_le {m : Nat} : ∀ {l : List (List Int)}, (∀ x ∈ l, x.length ≤ m) → (l.map List.length).sum ≤ m * l.length
  | [], _ => by simp
  | x :: l, h => by
    have h1 := h x (by simp)
    have h2 := sumL_le (l := l) fun y hy => h y (by simp [hy])
    rw [List.map_cons, List.sum_cons, List.length_cons, Nat.mul_add]
    omega
theorem db_bd {d : Dbd} (h : dbB d = true) : BDb d := by
  obtain ⟨h1, h2, _⟩ := dbB_iff.1 h
  have h3 : ∀ x ∈ d, cTb x ≤ 100 := fun x hx => by
    have ht := h2 x hx
    have hs := rowsB_sz ht.rel
    have hc := ht.cnt
    have hn : x.1.size ≤ 4 := by
      have := ht.nm
      unfold nameB at this
      rw [Bool.and_eq_true] at this
      have := inB_t this.1
      omega
    have hr := sumL_le hs.rl
    unfold cTb
    omega
  have h4 := sumT_le h3
  exact ⟨⟨by omega, by omega⟩, fun x hx => (rowsB_sz (h2 x hx).rel).a⟩
theorem pDb_bd (s : ByteArray) : BDb ((pDb s).getD []) := by
  cases h : pDb s with
  | none => exact ⟨⟨by decide, by decide⟩, by simp⟩
  | some d => exact db_bd (pDb_some h).1
theorem setD_bd {d : Dbd} (hd : BDb d) (name : ByteArray) (r : Rd) : BDb (setD d name r).1 := by
  unfold setD
  split
  · rename_i h
    exact db_bd h.2
  · exact hd
end Go.Proofs.Ytfigcfajkilhiaa
