/- Contracts of functions that the statement reaches. -/
import Derived.Deep.RegionLaw
import Derived.Deep.DrawnRows
import Derived.Test.YtbjpkfgkmilkdaaG05
namespace Go.Proofs.Ytbjpkfgkmilkdaa
open Go.RowKit
attribute [local go_sem ↓] Go.wp_at_zero Go.wp_at_succ
def zQ : Qd := (0, ([], []))
def PqRes (s : ByteArray) (w : World) (e : Ending) (w' : World) : Prop := ∃ v0 v1 v2 F, e = .returned (.tuple #[.agg #[v0, v1, v2], .bool (pQ s).isSome]) ∧ (∃ y, w' = ext w y) ∧ sQ w' [v0, v1, v2] ((pQ s).getD zQ) F ∧ F.Nodup ∧ ∀ b ∈ F, w.heap.size ≤ b
theorem pqG_step {n : Int} {ats : List At} {xs : List ByteArray} {k : Nat} (h : k < xs.length) : pqG n ats (xs.drop k) = (match pN (xs[k].extract (ixc 40 (bl xs[k])) xs[k].size) with | none => none | some vs => pqG (mxv n vs) (ats ++ [(xs[k].extract 0 (ixc 40 (bl xs[k])), vs)]) (xs.drop (k + 1))) := by
  rw [List.drop_eq_getElem_cons h, pqG] <;> rfl
theorem pqG_end {n : Int} {ats : List At} {xs : List ByteArray} {k : Nat} (h : ¬ k < xs.length) : pqG n ats (xs.drop k) = some (n, ats) := by
  rw [List.drop_eq_nil_of_le (by omega), pqG]
theorem ixB_step {s : ByteArray} {k : Nat} (h : k < s.size) (hc : s[k] ≠ 40) : k + ixc 40 ((bl s).drop k) = k + 1 + ixc 40 ((bl s).drop (k + 1)) := by
  rw [List.drop_eq_getElem_cons (by rw [bl_length]; exact h), bl_get s h, ixc, if_neg hc]
  omega
theorem ixB_hit {s : ByteArray} {k : Nat} (h : k < s.size) (hc : s[k] = 40) : k + ixc 40 ((bl s).drop k) = k := by
  rw [List.drop_eq_getElem_cons (by rw [bl_length]; exact h), bl_get s h, ixc, if_pos hc]
  omega
theorem ixB_end {s : ByteArray} {k : Nat} (h : ¬ k < s.size) : k + ixc 40 ((bl s).drop k) = k := by
  rw [List.drop_eq_nil_of_le (by rw [bl_length]; omega), ixc]
  omega
theorem mxv_step {n : Int} {vs : List Int} {m : Nat} (h : m < vs.length) : mxv n (vs.drop m) = mxv (max n (vs[m] + 1)) (vs.drop (m + 1)) := by
  rw [List.drop_eq_getElem_cons h]
  rfl
theorem mxv_end {n : Int} {vs : List Int} {m : Nat} (h : ¬ m < vs.length) : mxv n (vs.drop m) = n := by
  rw [List.drop_eq_nil_of_le (by omega)]
  rfl
theorem zQ_own (w : World) : sQ w [.int .i64 0, .slice none 0 0, .slice none 0 0] zQ [] := by
  exact ⟨[.int .i64 0], [.slice none 0 0, .slice none 0 0], [], [], rfl, rfl, ⟨rfl, rfl⟩, ⟨[.slice none 0 0], [.slice none 0 0], [], [], rfl, rfl, ⟨_, rfl, SV.nil⟩, ⟨_, rfl, SV.nil⟩, rfl⟩, rfl⟩
set_option maxRecDepth 100000 in
set_option maxHeartbeats 16000000 in
theorem ParseQuery_any {s : ByteArray} {w : World} (hs : s.size ≤ 1048576) : Calls Try.prog 23 #[.string s] w (PqRes s w) := by
  have hpos := splB_pos 61 s
  obtain ⟨p, hp⟩ : ∃ p, (splB 61 s).getD 0 ⟨#[]⟩ = p := ⟨_, rfl⟩
  have HP := Lib.hid hp
  have hps : p.size ≤ s.size := by
    rw [← hp, show (splB 61 s).getD 0 ⟨#[]⟩ = (splB 61 s)[0] by simp [List.getD_eq_getElem?_getD, hpos]]
    exact splB_piece (List.getElem_mem hpos)
  obtain ⟨ws, hws⟩ : ∃ ws, splB 61 s = ws := ⟨_, rfl⟩
  have HW := Lib.hid hws
  rw [hws] at hpos HP
  have hw61 : ws.length ≤ s.size + 1 := by rw [← hws]; exact splB_length 61 s
  clear hp hws
  go_enter Try.func23, Try.ntmps23
  go_upto_region 1 with fail
  refine wp_name ?_
  intro W hW
  have xW : ∃ y, W = ext w y := by rw [hW.out]; exact (by refine x'z ?_; repeat (with_reducible (first | exact x'a _ _ | exact x'b _ | exact x'c (by assumption) | refine x'd ?_ (by assumption) | refine x'e ?_ _ | refine x'f ?_ _ | refine x'g ?_ | refine x'h ?_ ?_ _ | refine x'i ?_ _ | refine x'j ?_ | refine x'k ?_ _ | refine x'l ?_ _ _ | refine x'm ?_ | assumption | (refine x'n ?_; omega) | omega)))
  have BW0 : BoxAt W (w.heap.size) #[.int .i64 0, .slice none 0 0, .slice none 0 0] := by rw [hW.out]; refine ⟨?_, fun j => ?_, fun j => ?_⟩ <;> go_simp
  obtain ⟨lW0, bW0, fW0⟩ := BW0
  have cW0_0 : W.cell? ⟨w.heap.size, 0, none⟩ = some (.int .i64 0) := bW0 0
  have cW0_1 : W.cell? ⟨w.heap.size, 1, none⟩ = some (.slice none 0 0) := bW0 1
  have cW0_2 : W.cell? ⟨w.heap.size, 2, none⟩ = some (.slice none 0 0) := bW0 2
  clear hW
  have RW : BoxAt W w.heap.size #[.int .i64 0, .slice none 0 0, .slice none 0 0] := ⟨lW0, bW0, fW0⟩
  clear bW0 fW0 cW0_0 cW0_1 cW0_2
  go_wp2_with fail
  refine (split_m 61 61 (by omega) (by decide)).mono ?_
  rintro e w1 ⟨vw, Fw, rfl, hx1, hSw, hFw⟩
  rw [HW.out] at hSw
  obtain ⟨A1, c1, rfl, _, _, r1⟩ := hSw.view sS_v
  have hx01 := trans_ext xW hx1
  have R1 := RW.toExt hx1
  have hzw1 : w.heap.size < w1.heap.size := R1.1
  have HSw := Lib.hid hSw
  have HFw := Lib.hid hFw
  obtain ⟨b1, o1, rfl, hb1, hc1⟩ := r1.atS1 hpos HP.out
  clear hSw hFw RW lW0
  go_wp2_with fail
  refine (parseNames_any (by omega)).mono ?_
  rintro e w2 ⟨vo, Fo, rfl, hx2, hSo, hFo⟩
  obtain ⟨l2, k2, k2', k2'', f2⟩ := box3 (R1.toExt hx2)
  have R2 := R1.toExt hx2
  have hx02 := trans_ext hx01 hx2
  have r2 := r1.toExt hx2
  clear R1
  cases ho : pN p with
  | none =>
    have HE := Lib.hid (show pQ s = none by unfold pQ; rw [HW.out, HP.out, ho])
    rw [ho] at hSo
    clear ho hSo
    go_wp2
    exact bodyPost_ret (v := .tuple #[.agg #[.int .i64 0, .slice none 0 0, .slice none 0 0], .bool false]) (by simp [results, Try.results23, go_sem, *]) rfl ⟨_, _, _, [], by rw [HE.out]; rfl, (by refine x'z ?_; repeat (with_reducible (first | exact x'a _ _ | exact x'b _ | exact x'c (by assumption) | refine x'd ?_ (by assumption) | refine x'e ?_ _ | refine x'f ?_ _ | refine x'g ?_ | refine x'h ?_ ?_ _ | refine x'i ?_ _ | refine x'j ?_ | refine x'k ?_ _ | refine x'l ?_ _ _ | refine x'm ?_ | assumption | (refine x'n ?_; omega) | omega))), by rw [HE.out]; exact zQ_own _, by simp, by simp⟩
  | some out =>
    rw [ho] at hSo
    obtain ⟨hin, hol⟩ := pN_in ho
    by_cases hl : ws.length = 2
    · have q1 : ((ws.length : Int) != 2) = false := by simp [hl]
      have h2w : 1 < ws.length := by omega
      obtain ⟨p2, hp2⟩ : ∃ p, ws.getD 1 ⟨#[]⟩ = p := ⟨_, rfl⟩
      have hps2 : p2.size ≤ s.size := by
        rw [← hp2, show ws.getD 1 ⟨#[]⟩ = ws[1] by simp [List.getD_eq_getElem?_getD, h2w]]
        have := splB_piece (c := 61) (s := s) (p := ws[1]) (by rw [HW.out]; exact List.getElem_mem h2w)
        exact this
      have HP2 := Lib.hid hp2
      have HE := Lib.hid (show pQ s = (match pqG 0 [] (splB 44 p2) with | none => none | some r => finQ (r.1, r.2, out) s) by
        unfold pQ
        rw [HW.out, HP.out, ho, hp2]
        simp only
        rw [if_pos hl]
        rfl)
      obtain ⟨Ao, co, rfl, _, _⟩ := hSo.form
      simp only [Option.getD_some, Option.isSome_some] at hSo ⊢
      clear hp2 ho hl
      go_upto_region 6 with fail
      refine wp_name ?_
      intro W3 hW3
      have x3 : ∃ y, W3 = ext w2 y := by rw [hW3.out]; exact (by refine x'z ?_; repeat (with_reducible (first | exact x'a _ _ | exact x'b _ | exact x'c (by assumption) | refine x'd ?_ (by assumption) | refine x'e ?_ _ | refine x'f ?_ _ | refine x'g ?_ | refine x'h ?_ ?_ _ | refine x'i ?_ _ | refine x'j ?_ | refine x'k ?_ _ | refine x'l ?_ _ _ | refine x'm ?_ | assumption | (refine x'n ?_; omega) | omega)))
      have B7 : BoxAt W3 w2.heap.size #[.int .i64 0, .slice none 0 0, .slice Ao out.length co] := by rw [hW3.out]; exact (by repeat (with_reducible (first | assumption | exact BoxAt.new _ _ _ | apply BoxAt.set3 | refine BoxAt.set3' ?_ (by omega) | apply BoxAt.set30 | apply BoxAt.set31 | apply BoxAt.set32 | apply BoxAt.set2 | refine BoxAt.set2' ?_ (by omega) | apply BoxAt.setP0 | apply BoxAt.setP1 | refine BoxAt.setO ?_ (by omega) | refine BoxAt.alloc ?_ _ | refine BoxAt.drew ?_ | refine BoxAt.toExt ?_ (by assumption))))
      have hb7 : w.heap.size < w2.heap.size := l2
      have hFo2 := hSo.lt
      have So3 := hSo.toExt x3
      have R3 := R2.toExt x3
      have r3 := r2.toExt x3
      have hx03 := trans_ext hx02 x3
      obtain ⟨b7, q7⟩ : ∃ b, w2.heap.size = b := ⟨_, rfl⟩
      rw [q7] at B7 hb7 hFo2 ⊢
      have hb7w : b7 < W3.heap.size := B7.1
      clear hW3 x3 q7 R2 r1 r2 hSo l2 k2 k2' k2'' f2 hb1 hc1 HFw HSw hx1 hx2 hx01 hx02 xW
      obtain ⟨b1', o1', e1, hb1, hc1⟩ := r3.atS h2w
      injection e1 with e1
      injection e1 with e1 e2
      subst e1 e2
      rw [show ws[1] = p2 by rw [← HP2.out]; simp [List.getD_eq_getElem?_getD, h2w]] at hc1
      go_wp2_with fail
      refine (split_m 44 44 (by omega) (by decide)).mono ?_
      rintro e w4 ⟨vx, Fx, rfl, hx4, hSx, hFx⟩
      obtain ⟨xs, hxs⟩ : ∃ xs, splB 44 p2 = xs := ⟨_, rfl⟩
      have hxl : xs.length ≤ p2.size + 1 := by rw [← hxs]; exact splB_length 44 p2
      have hxp : ∀ x ∈ xs, x.size ≤ p2.size := by rw [← hxs]; exact fun x hx => splB_piece hx
      rw [hxs] at hSx HE
      obtain ⟨Ax, cx, rfl, _, _⟩ := hSx.form
      have B74 := B7.toExt hx4
      have So4 := So3.toExt hx4
      have R4 := R3.toExt hx4
      have HX4 := Lib.hid (trans_ext hx03 hx4)
      have hz4 := size_of_ext hx4
      have h7x : ∀ b ∈ Fx, b ∉ [b7] := fun b hb h => by have := hFx b hb; rw [List.mem_singleton.1 h] at this; omega
      have h7o : ∀ b ∈ Fo, b ∉ [b7] := fun b hb h => by have := hFo2 b hb; rw [List.mem_singleton.1 h] at this; omega
      have HSx := Lib.hid hSx
      have HSo := Lib.hid So4
      have H7x := Lib.hid h7x
      have H7o := Lib.hid h7o
      have HR4 := Lib.hid R4
      have HXP := Lib.hid hxp
      have HB74 := Lib.hid B74
      have HFo := Lib.hid hFo
      have h74 : b7 < w4.heap.size := B74.1
      clear hxs hxp hSx hFx h7x h7o B7 B74 So3 So4 R3 R4 r3 hb1 hc1 hx03 hx4 hFo2 hFo
      go_wp2_with fail
      go_loopw [39] (fun i wr => ∃ (k : Nat) (n : Int) (ats : List At) (A : Option Addr) (c : Nat) (F : List Nat), i = .int .i64 k ∧ k ≤ xs.length ∧ BoxAt wr b7 #[.int .i64 n, .slice A ats.length c, .slice Ao out.length co] ∧ SV 89 2 sAt wr (.slice A ats.length c) ats F ∧ F.Nodup ∧ (∀ b ∈ F, w4.heap.size ≤ b) ∧ Chg [b7] w4 wr ∧ 0 ≤ n ∧ n ≤ 5 ∧ ats.length ≤ k ∧ (∀ x ∈ ats, x.1.size ≤ 4194304 ∧ x.2.length ≤ 4194304) ∧ Hid (pqG n ats (xs.drop k) = pqG 0 [] xs)) (fun i _ => xs.length - (intOf i).toNat)
      case atStart => exact ⟨0, 0, [], none, 0, [], rfl, by omega, HB74.out, SV.nil, by simp, by simp, Chg.refl _ _, by omega, by omega, by simp, by simp, Lib.hid rfl⟩
      case round =>
        obtain ⟨k, n, ats, A, c, F, rfl, hk, hB, hS, hN, hF, hC, hn0, hn5, hal, hab, Hj⟩ := hrel
        have HS := Lib.hid hS
        have HN := Lib.hid hN
        have HF := Lib.hid hF
        have HC := Lib.hid hC
        have HAB := Lib.hid hab
        have HB := Lib.hid hB
        have h7r : b7 < wr.heap.size := hB.1
        by_cases hlt : k < xs.length
        · obtain ⟨_, _, e5, _, _, rx⟩ := (HSx.out.chg hC H7x.out).view sS_v
          injection e5 with e5 _ e6
          subst e5 e6
          obtain ⟨bx, ox, rfl, hbx, hcx⟩ := rx.atS hlt
          obtain ⟨wd, hwd⟩ : ∃ x, xs[k] = x := ⟨_, rfl⟩
          have hwdp : wd.size ≤ p2.size := by rw [← hwd]; exact HXP.out _ (List.getElem_mem hlt)
          have ej := Hj.out
          rw [pqG_step hlt] at ej
          rw [hwd] at ej hcx
          obtain ⟨jx, hjx⟩ : ∃ j, ixc 40 (bl wd) = j := ⟨_, rfl⟩
          rw [hjx] at ej
          have HJX := Lib.hid hjx
          have Hej := Lib.hid ej
          clear hwd ej hjx hS hN hF hC hab hB rx
          go_wp2_with fail
          go_loop [10] (fun i => ∃ j : Nat, i = .int .i64 j ∧ j ≤ wd.size ∧ Hid (j + ixc 40 ((bl wd).drop j) = jx)) (fun i => wd.size - (intOf i).toNat)
          case atStart => exact ⟨0, rfl, by omega, Lib.hid (by simpa using HJX.out)⟩
          case round =>
            obtain ⟨j, rfl, hj, hjj⟩ := hrel
            by_cases hcont : ∃ h : j < wd.size, wd[j] ≠ 40
            · obtain ⟨hjs, hc⟩ := hcont
              have q3 := u8_bnef hc
              rw [show ((40 : UInt8).toNat : Int) = 40 from rfl] at q3
              have HJ2 := Lib.hid ((ixB_step hjs hc).symm.trans hjj.out)
              clear hc
              go_wp2
              exact ⟨⟨j + 1, by go_num, by omega, HJ2⟩, by simp [intOf]; omega⟩
            · have hjx2 : j = jx := by
                by_cases hjs : j < wd.size
                · rw [← hjj.out, ixB_hit hjs (Classical.byContradiction fun h => hcont ⟨hjs, h⟩)]
                · rw [← hjj.out, ixB_end hjs]
              clear HJX
              subst hjx2
              have hjI : (j : Int) ≤ (wd.size : Int) := by omega
              by_cases hjs : j < wd.size
              all_goals
                try (have q3 := u8_bnet (Classical.byContradiction fun h => hcont ⟨hjs, h⟩ : wd[j]'hjs = 40); rw [show ((40 : UInt8).toNat : Int) = 40 from rfl] at q3)
                clear hcont
                go_upto_region 12 with fail
                try clear q3
                have hes : (wd.extract j wd.size).size ≤ 1000000000 := by rw [ByteArray.size_extract]; omega
                have hes2 : (wd.extract j wd.size).size ≤ p2.size := by rw [ByteArray.size_extract]; omega
                have hes0 : (wd.extract 0 j).size ≤ p2.size := by rw [ByteArray.size_extract]; omega
                go_wp2_with fail
                refine (parseNames_any hes).mono ?_
                rintro e w5 ⟨vv5, F5, rfl, hx5, hS5, hF5⟩
                have ej := Hej.out
                obtain ⟨o5, ho5⟩ : ∃ o, pN (wd.extract j wd.size) = o := ⟨_, rfl⟩
                have hin5 : ∀ r, o5 = some r → In5 r ∧ r.length ≤ p2.size := fun r hr => by
                  have := pN_in (ho5.trans hr)
                  exact ⟨this.1, by omega⟩
                rw [ho5] at ej hS5 ⊢
                clear ho5 hes hes2 Hej
                cases o5 with
                | none =>
                  have HE2 := Lib.hid (show pQ s = none by rw [HE.out, ← ej])
                  have R5 := (HR4.out.chg HC.out (by simp; omega)).toExt hx5
                  obtain ⟨l5, k5, k5', k5'', f5⟩ := box3 R5
                  have HX5 := Lib.hid (trans_ext ((HC.out).isExt HX4.out (by simp; omega)) hx5)
                  clear ej hS5 hF5 hin5 R5
                  simp only [Option.isSome_none]
                  go_wp2
                  have hX := HX5.out
                  exact bodyPost_ret (v := .tuple #[.agg #[.int .i64 0, .slice none 0 0, .slice none 0 0], .bool false]) (by simp [results, Try.results23, go_sem, *]) rfl ⟨_, _, _, [], by rw [HE2.out]; rfl, (by refine x'z ?_; repeat (with_reducible (first | exact x'a _ _ | exact x'b _ | exact x'c (by assumption) | refine x'd ?_ (by assumption) | refine x'e ?_ _ | refine x'f ?_ _ | refine x'g ?_ | refine x'h ?_ ?_ _ | refine x'i ?_ _ | refine x'j ?_ | refine x'k ?_ _ | refine x'l ?_ _ _ | refine x'm ?_ | assumption | (refine x'n ?_; omega) | omega))), by rw [HE2.out]; exact zQ_own _, by simp, by simp⟩
                | some vs =>
                  obtain ⟨hv5, hvl⟩ := hin5 vs rfl
                  simp only [Option.getD_some, Option.isSome_some] at hS5 ⊢
                  have HEJ := Lib.hid ej
                  obtain ⟨Av, cv, rfl, _, _⟩ := hS5.form
                  have HV5 := Lib.hid hv5
                  have B5 := HB.out.toExt hx5
                  have S5 := HS.out.toExt hx5
                  have C5 : Chg [b7] w4 w5 := HC.out.trans0 hx5
                  have h75 : ∀ b ∈ F5, b ∉ [b7] := fun b hb h => by have := hF5 b hb; rw [List.mem_singleton.1 h] at this; omega
                  have H75 := Lib.hid h75
                  have HS5 := Lib.hid hS5
                  have HF5 := Lib.hid hF5
                  have HB5 := Lib.hid B5
                  have HSS := Lib.hid S5
                  have HC5 := Lib.hid C5
                  have hz5 := size_of_ext hx5
                  have hFl := Lib.hid HS.out.lt
                  have hzc := HC.out.size
                  clear ej hS5 hF5 hin5 hv5 B5 S5 C5 h75 hx5 HB HS HC
                  go_wp2_with fail
                  go_loopw [67] (fun i vr => ∃ (m : Nat) (n' : Int), i = .int .i64 m ∧ m ≤ vs.length ∧ BoxAt vr b7 #[.int .i64 n', .slice A ats.length c, .slice Ao out.length co] ∧ Chg [b7] w5 vr ∧ 0 ≤ n' ∧ n' ≤ 5 ∧ Hid (mxv n' (vs.drop m) = mxv n vs)) (fun i _ => vs.length - (intOf i).toNat)
                  case atStart => exact ⟨0, n, rfl, by omega, HB5.out, Chg.refl _ _, hn0, hn5, Lib.hid rfl⟩
                  case round =>
                    obtain ⟨m, n', rfl, hm, hBm, hCm, hm0, hm5, Hm⟩ := hrel
                    obtain ⟨lm, km, km', km'', fm⟩ := box3 hBm
                    have HBm := Lib.hid hBm
                    have HCm := Lib.hid hCm
                    by_cases hmlt : m < vs.length
                    · obtain ⟨_, _, e8, _, _, rv⟩ := (HS5.out.chg hCm H75.out).view sI_v
                      injection e8 with e8 _ e9
                      subst e8 e9
                      obtain ⟨bv, ov, rfl, hbv, hcv⟩ := rv.atI hmlt
                      obtain ⟨x, hx⟩ : ∃ x, vs[m] = x := ⟨_, rfl⟩
                      have hxb := HV5.out vs[m] (List.getElem_mem hmlt)
                      have em := Hm.out
                      rw [mxv_step hmlt] at em
                      rw [hx] at em hcv hxb
                      obtain ⟨hx0, hx4⟩ := hxb
                      have HM := Lib.hid em
                      clear em hx hBm hCm rv
                      by_cases hmx : n' < x + 1
                      · have HMX := Lib.hid (show max n' (x + 1) = x + 1 by omega)
                        have HM2 := Lib.hid (show mxv (x + 1) (vs.drop (m + 1)) = mxv n vs by rw [← HM.out, HMX.out])
                        go_wp2
                        exact ⟨⟨m + 1, x + 1, by go_num, by omega, HBm.out.set30, HCm.out.setCell (.inl (by simp)) _, by omega, by omega, HM2⟩, by simp [intOf]; omega⟩
                      · have HMX := Lib.hid (show max n' (x + 1) = n' by omega)
                        have HM2 := Lib.hid (show mxv n' (vs.drop (m + 1)) = mxv n vs by rw [← HM.out, HMX.out])
                        go_wp2
                        exact ⟨⟨m + 1, n', by go_num, by omega, HBm.out.set30, HCm.out.setCell (.inl (by simp)) _, by omega, by omega, HM2⟩, by simp [intOf]; omega⟩
                    · have em := Hm.out
                      rw [mxv_end hmlt] at em
                      subst em
                      have h7F : ∀ b ∈ F, b ∉ [b7] := fun b hb h => by have := HF.out b hb; rw [List.mem_singleton.1 h] at this; omega
                      have SA := HSS.out.chg hCm h7F
                      have SI := HS5.out.chg hCm H75.out
                      have hNN := nodup_more HN.out HS5.out.nodup hFl.out HF5.out
                      have hze := HCm.out.size
                      have hfe : ∀ b ∈ F, b ∉ [b7] := h7F
                      have h7nF : b7 ∉ F := fun h => h7F b7 h (by simp)
                      have hal2 : ats.length + 1 ≤ 2000000000 := by omega
                      clear hBm hCm h7F hfe
                      go_upto_region 20 with fail
                      go_region_law (first
                        | (refine step_appB (E := sAt) (d := (wd.extract 0 j, vs)) (G := F5) (cs := #[.string (wd.extract 0 j), .slice Av vs.length cv]) (by rfl) _ _ _ (by rfl) tA (by rfl) (by rfl) (by exact BoxAt.new _ _ _) (by simpa using sP_mk (F0 := []) ⟨rfl, rfl⟩ ⟨_, rfl, SI.toExt (trans_ext (alloc_ext _ _) (drew_ext _))⟩) (by rfl) (by simp [Value.oneCell']) (SA.toExt (trans_ext (alloc_ext _ _) (drew_ext _))) hNN hal2 (by omega) ?_; intro v6 w6 F6 hS6 hC6 hN6 hF6; obtain ⟨A6, c6, rfl, _, _⟩ := hS6.form; have B6 := ((HBm.out.alloc (.cells #[.string (wd.extract 0 j), .slice Av vs.length cv] 89)).drew).chg hC6 h7nF; obtain ⟨l6, k6, k6', k6'', f6⟩ := box3 B6))
                      all_goals
                        have hCa := ((((HC5.out.trans HCm.out (fun x hx => .inl hx)).alloc (.cells #[.string (wd.extract 0 j), .slice Av vs.length cv] 89)).drew).trans hC6 (fun x hx => .inr (HF.out x hx))).setCell (p := ⟨b7, 1, none⟩) (.inl (by simp)) (.slice A6 (ats ++ [(wd.extract 0 j, vs)]).length c6)
                        have hF6n : ∀ b ∈ F6, w4.heap.size ≤ b := fun b hb => by
                          rcases hF6 b hb with h | h | h
                          · exact HF.out b h
                          · have := HF5.out b h; omega
                          · rw [show ((wr.alloc (.cells #[.string (wd.extract 0 j), .slice Av vs.length cv] 89)).drew).heap.size = wr.heap.size + 1 by simp] at h; omega
                        have hSf := hS6.chg ((Chg.refl [b7] w6).setCell (p := ⟨b7, 1, none⟩) (.inl (by simp)) (.slice A6 (ats ++ [(wd.extract 0 j, vs)]).length c6)) (fun b hb h => by have := hF6n b hb; rw [List.mem_singleton.1 h] at this; omega)
                        have hBf := B6.set31 (u := .slice A6 (ats ++ [(wd.extract 0 j, vs)]).length c6)
                        have HABf : Hid (∀ x ∈ ats ++ [(wd.extract 0 j, vs)], x.1.size ≤ 4194304 ∧ x.2.length ≤ 4194304) := Lib.hid (fun x hx => by
                          rcases List.mem_append.1 hx with h | h
                          · exact HAB.out x h
                          · rw [List.mem_singleton.1 h]; dsimp only; omega)
                        have HH := Lib.hid (And.intro hSf (And.intro hBf (And.intro hCa hF6n)))
                        have HN6 := Lib.hid hN6
                        clear hCa hF6n hSf hBf hS6 hC6 hN6 hF6 B6 SA SI
                        go_wp2
                        rw [show ats.length + 1 = (ats ++ [(wd.extract 0 j, vs)]).length by simp]
                        exact ⟨⟨k + 1, mxv n vs, ats ++ [(wd.extract 0 j, vs)], A6, c6, F6, by go_num, by omega, HH.out.2.1, HH.out.1, HN6.out, HH.out.2.2.2, HH.out.2.2.1, hm0, hm5, by simp; omega, HABf.out, Lib.hid HEJ.out⟩, by simp [intOf]; omega⟩
        · have ej := Hj.out
          rw [pqG_end hlt] at ej
          have HE3 := Lib.hid (show pQ s = finQ (n, ats, out) s by rw [HE.out, ← ej])
          have hXr := HC.out.isExt HX4.out (by simp; omega)
          have Sor := HSo.out.chg HC.out H7o.out
          have R5 := HR4.out.chg HC.out (by simp; omega)
          have hq : sQ wr [.int .i64 n, .slice A ats.length c, .slice Ao out.length co] (n, ats, out) ([] ++ (F ++ Fo)) := sP_mk ⟨rfl, rfl⟩ (sP_mk ⟨_, rfl, HS.out⟩ ⟨_, rfl, Sor⟩)
          rw [List.nil_append] at hq
          have hz4w := size_of_ext HX4.out
          have hFn : ∀ b ∈ F ++ Fo, w.heap.size < b := fun b hb => by
            rcases List.mem_append.1 hb with h | h
            · have := HF.out b h; omega
            · have := HFo.out b h; omega
          have hNN : (F ++ Fo).Nodup := List.nodup_append.2 ⟨HN.out, Sor.nodup, fun a ha b hb e => by
            have h1 := HF.out a ha
            have h2 := HSo.out.lt b hb
            omega⟩
          have HQ := Lib.hid hq
          have HFN := Lib.hid hFn
          have HNN := Lib.hid hNN
          have HXr := Lib.hid hXr
          have hWQ : WQ (n, ats, out) := ⟨⟨by dsimp only; omega, by dsimp only; omega⟩, ⟨by dsimp only; omega, HAB.out⟩, by dsimp only; omega⟩
          have HWQ := Lib.hid hWQ
          obtain ⟨l7, k7, k7', k7'', f7⟩ := box3 hB
          obtain ⟨l5, k5, k5', k5'', f5⟩ := box3 R5
          have HB7 := Lib.hid hB
          have HR5 := Lib.hid R5
          clear ej hS hN hF hC hab hB hq hFn hNN hXr hWQ Sor R5
          by_cases hs0 : s.size = 0
          · obtain rfl : s = ⟨#[]⟩ := bl_inj (size_zero hs0)
            have HE4 := Lib.hid (show pQ ⟨#[]⟩ = none by rw [HE3.out]; unfold finQ; rw [if_neg (fun h => h.2 rfl)])
            clear hs0
            go_wp2
            have hX := HXr.out
            exact bodyPost_ret (v := .tuple #[.agg #[.int .i64 0, .slice none 0 0, .slice none 0 0], .bool false]) (by simp [results, Try.results23, go_sem, *]) rfl ⟨_, _, _, [], by rw [HE4.out]; rfl, (by refine x'z ?_; repeat (with_reducible (first | exact x'a _ _ | exact x'b _ | exact x'c (by assumption) | refine x'd ?_ (by assumption) | refine x'e ?_ _ | refine x'f ?_ _ | refine x'g ?_ | refine x'h ?_ ?_ _ | refine x'i ?_ _ | refine x'j ?_ | refine x'k ?_ _ | refine x'l ?_ _ _ | refine x'm ?_ | assumption | (refine x'n ?_; omega) | omega))), by rw [HE4.out]; exact zQ_own _, by simp, by simp⟩
          · have z1 := isEmpty_no (s := s) (by omega)
            have z2 := toList_empty (s := s) (by omega)
            obtain ⟨t, ht⟩ : ∃ t, fmtQ (n, ats, out) = t := ⟨_, rfl⟩
            have HT := Lib.hid ht
            by_cases hts : t = s
            · have q8 := str_bnet hts
              have q9 := str_beqt hts
              have HE4 := Lib.hid (show pQ s = some (n, ats, out) by rw [HE3.out]; unfold finQ; rw [if_pos ⟨ht.trans hts, hs0⟩])
              clear ht hts hs0
              go_wp2_with (go_at_call 24; refine (FormatQuery_w (d := (n, ats, out)) HWQ.out (sQ_v _ _ _ HQ.out)).mono ?_; rintro e w8 ⟨rfl, hx8⟩; rw [HT.out]; obtain ⟨l8, k8, k8', k8'', f8⟩ := box3 (HB7.out.toExt hx8); obtain ⟨l9, k9, k9', k9'', f9⟩ := box3 (HR5.out.toExt hx8))
              have hX := HXr.out
              have hQ8 : sQ w8 [.int .i64 n, .slice A ats.length c, .slice Ao out.length co] (n, ats, out) (F ++ Fo) := OD.toExt HQ.out hx8
              exact bodyPost_ret (v := .tuple #[.agg #[.int .i64 n, .slice A ats.length c, .slice Ao out.length co], .bool true]) (by simp [results, Try.results23, go_sem, *]) rfl ⟨_, _, _, F ++ Fo, by rw [HE4.out]; rfl, (by refine x'z ?_; repeat (with_reducible (first | exact x'a _ _ | exact x'b _ | exact x'c (by assumption) | refine x'd ?_ (by assumption) | refine x'e ?_ _ | refine x'f ?_ _ | refine x'g ?_ | refine x'h ?_ ?_ _ | refine x'i ?_ _ | refine x'j ?_ | refine x'k ?_ _ | refine x'l ?_ _ _ | refine x'm ?_ | assumption | (refine x'n ?_; omega) | omega))), by rw [HE4.out]; exact OD.chg (G := [w.heap.size]) hQ8 (by repeat (with_reducible (first | exact Chg.refl _ _ | refine Chg.trans0 ?_ (by assumption) | refine Chg.extS ?_ _ | refine Chg.alloc ?_ _ | refine Chg.drew ?_ | refine Chg.setCell ?_ (.inl (by simp)) _))) (fun b hb h => by have := HFN.out b hb; rw [List.mem_singleton.1 h] at this; omega), HNN.out, fun b hb => Nat.le_of_lt (HFN.out b hb)⟩
            · have q8 := str_bnef hts
              have q9 := str_beqf hts
              have HE4 := Lib.hid (show pQ s = none by rw [HE3.out]; unfold finQ; rw [if_neg (fun h => hts (ht.symm.trans h.1))])
              clear ht hts hs0
              go_wp2_with (go_at_call 24; refine (FormatQuery_w (d := (n, ats, out)) HWQ.out (sQ_v _ _ _ HQ.out)).mono ?_; rintro e w8 ⟨rfl, hx8⟩; rw [HT.out]; obtain ⟨l8, k8, k8', k8'', f8⟩ := box3 (HB7.out.toExt hx8); obtain ⟨l9, k9, k9', k9'', f9⟩ := box3 (HR5.out.toExt hx8))
              have hX := HXr.out
              exact bodyPost_ret (v := .tuple #[.agg #[.int .i64 0, .slice none 0 0, .slice none 0 0], .bool false]) (by simp [results, Try.results23, go_sem, *]) rfl ⟨_, _, _, [], by rw [HE4.out]; rfl, (by refine x'z ?_; repeat (with_reducible (first | exact x'a _ _ | exact x'b _ | exact x'c (by assumption) | refine x'd ?_ (by assumption) | refine x'e ?_ _ | refine x'f ?_ _ | refine x'g ?_ | refine x'h ?_ ?_ _ | refine x'i ?_ _ | refine x'j ?_ | refine x'k ?_ _ | refine x'l ?_ _ _ | refine x'm ?_ | assumption | (refine x'n ?_; omega) | omega))), by rw [HE4.out]; exact zQ_own _, by simp, by simp⟩
    · have q1 : ((ws.length : Int) != 2) = true := by rw [bne_iff_ne]; omega
      have HE := Lib.hid (show pQ s = none by
        unfold pQ
        rw [HW.out, HP.out, ho]
        simp only
        rw [if_neg hl])
      simp only [Option.getD_some, Option.isSome_some] at hSo ⊢
      clear ho hSo hl
      go_wp2
      exact bodyPost_ret (v := .tuple #[.agg #[.int .i64 0, .slice none 0 0, .slice none 0 0], .bool false]) (by simp [results, Try.results23, go_sem, *]) rfl ⟨_, _, _, [], by rw [HE.out]; rfl, (by refine x'z ?_; repeat (with_reducible (first | exact x'a _ _ | exact x'b _ | exact x'c (by assumption) | refine x'd ?_ (by assumption) | refine x'e ?_ _ | refine x'f ?_ _ | refine x'g ?_ | refine x'h ?_ ?_ _ | refine x'i ?_ _ | refine x'j ?_ | refine x'k ?_ _ | refine x'l ?_ _ _ | refine x'm ?_ | assumption | (refine x'n ?_; omega) | omega))), by rw [HE.out]; exact zQ_own _, by simp, by simp⟩
end Go.Proofs.Ytbjpkfgkmilkdaa
