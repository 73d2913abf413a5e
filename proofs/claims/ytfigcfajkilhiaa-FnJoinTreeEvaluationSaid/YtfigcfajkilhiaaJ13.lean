/- Contracts of functions that the statement reaches. -/
import Derived.Deep.RegionLaw
import Derived.Test.YtfigcfajkilhiaaJ02
import Derived.Test.YtfigcfajkilhiaaJ12
import Derived.Test.YtfigcfajkilhiaaJ04
import Derived.Test.YtfigcfajkilhiaaJ11
namespace Go.Proofs.Ytfigcfajkilhiaa
open Go.RowKit
def RowDP (w0 : World) (g n : Nat) (most : Int) (w : World) (e : Ending) (w' : World) : Prop := ∃ v F xs, e = .returned v ∧ SV 3 1 sI w' v xs F ∧ (∀ b ∈ F, w.heap.size ≤ b) ∧ xs.length = n ∧ (∀ x ∈ xs, 0 ≤ x ∧ x < most) ∧ Cur w0 w' g ∧ Chg [g] w w'
set_option maxHeartbeats 4000000 in
theorem l4Row_any {g n : Nat} {most : Int} {w0 w : World} (hc : Cur w0 w g) (hn : n ≤ 10) (hm : 1 ≤ most) (hm2 : most ≤ 256) :
    Calls Try.prog 155 #[.pointer (some ⟨g, 0, none⟩), .int .i64 n, .int .i64 most] w (RowDP w0 g n most w) := by
  have hgw := hc.lt
  have hw0w := size_of_ext hc.2.1
  have hS0 := SV.empty (α := Int) (te := 3) (size := 1) (E := sI) w
  have hc0 := hc.toExt (alloc_ext w (.cells #[] 3))
  go_enter Try.func155, Try.ntmps155
  go_wp2
  go_loopw [7] (fun v wr => ∃ (xs : List Int) (F : List Nat), SV 3 1 sI wr v xs F ∧ (∀ b ∈ F, w.heap.size ≤ b) ∧ xs.length ≤ n ∧ (∀ x ∈ xs, 0 ≤ x ∧ x < most) ∧ Cur w0 wr g ∧ Chg [g] w wr) (fun v _ => n - lenR v)
  case atStart => exact ⟨[], [w.heap.size], hS0, by simp, by simp, by simp, hc0, (Chg.refl [g] w).alloc _⟩
  case round =>
    clear hS0 hc0 hc
    obtain ⟨xs, F, hS, hF, hl, hr, hcr, hC⟩ := hrel
    have HF := Lib.hid hF
    have HS := Lib.hid hS
    have HR := Lib.hid hr
    have HC := Lib.hid hC
    have Hcr := Lib.hid hcr
    have hzr := hC.size
    have ngF : Hid (∀ b ∈ F, b ∉ [g]) := Lib.hid (fun b hb h => by have := hF b hb; simp at h; omega)
    obtain ⟨A, cap, rfl, _, _⟩ := hS.form
    clear hS hF hC hr hcr
    by_cases hlt : xs.length < n
    · go_wp2_with fail
      refine (l1Below_any Hcr.out (by omega) (by omega)).mono ?_
      rintro e w1 ⟨x, rfl, hx0, hx1, hc1, hC1⟩
      have hX1 := HS.out.chg hC1 ngF.out
      have HC1 := Lib.hid (HC.out.trans hC1 (fun x hx => .inl hx))
      have Hc1 := Lib.hid hc1
      have hz1 := HC1.out.size
      clear hc1 hC1
      go_wp2_with (at_builtin; refine wpList_app1 (E := sI) (d := x) rfl _ _ _ rfl tI rfl rfl rfl (by simp) (fun _ => ⟨rfl, rfl⟩) rfl (by simp [Value.oneCell']) hX1 (by omega) (by omega) ?_; intro v' w' F' hS' hC' hF')
      have hR' : ∀ y ∈ xs ++ [x], 0 ≤ y ∧ y < most := fun y hy => by
        rcases List.mem_append.1 hy with h | h
        · exact HR.out y h
        · rw [List.mem_singleton.1 h]; exact ⟨hx0, hx1⟩
      exact ⟨⟨xs ++ [x], F', hS', newer HF.out hz1 hF', by simp; omega, hR', Hc1.out.chg hC' (fun h => ngF.out g h (by simp)) (fun b hb => Nat.le_trans hw0w (HF.out b hb)), HC1.out.trans hC' (fun x hx => .inr (HF.out x hx))⟩, by have e := hS'.form; obtain ⟨A', c', rfl, _⟩ := e; simp [lenR]; omega⟩
    · have HL := Lib.hid (show xs.length = n by omega)
      go_wp2
      go_ret
      exact ⟨_, F, xs, rfl, HS.out, HF.out, HL.out, HR.out, Hcr.out, HC.out⟩
structure RelD (r : Rd) (a m : Nat) (val : Int) : Prop where
  ar : r.1 = (a : Int)
  n : r.2.length ≤ m
  ok : rowsB r.1 r.2 = true
  v : ∀ x ∈ r.2, ∀ y ∈ x, 0 ≤ y ∧ y < val
theorem relD_mk {a m : Nat} {val : Int} {rows : List (List Int)} (ha : a ≤ 5) (hm : m ≤ 4000) (hv : val ≤ 100) (hn : rows.length ≤ m) (hr : ∀ x ∈ rows, x.length = a ∧ ∀ y ∈ x, 0 ≤ y ∧ y < val) : newR (a : Int) rows = some ((a : Int), sortR rows) ∧ RelD ((a : Int), sortR rows) a m val := by
  have hl := sortR_length rows
  have e := newR_some (a := (a : Int)) (rows := rows) (rowsIn_iff.2 fun r h => ⟨by rw [(hr r h).1], rowV_iff.2 fun x hx => by have := (hr r h).2 x hx; omega⟩) (by omega) (by omega) (by omega)
  exact ⟨e, rfl, by show (sortR rows).length ≤ m; omega, (newR_valid e).1, fun x hx => (hr x (mem_sortR.1 hx)).2⟩
def RelDP (w0 : World) (g a m : Nat) (val : Int) (w : World) (e : Ending) (w' : World) : Prop := ∃ v0 v1 F r, e = .returned (.agg #[v0, v1]) ∧ sRel w' [v0, v1] r F ∧ F.Nodup ∧ (∀ b ∈ F, w.heap.size ≤ b) ∧ RelD r a m val ∧ Cur w0 w' g ∧ Chg [g] w w'
set_option maxRecDepth 100000 in
set_option maxHeartbeats 8000000 in
theorem l5Rel_any {g a m : Nat} {val : Int} {w0 w : World} (hc : Cur w0 w g) (ha : a ≤ 5) (hm : m ≤ 100) (hv : 1 ≤ val) (hv2 : val ≤ 100) :
    Calls Try.prog 135 #[.pointer (some ⟨g, 0, none⟩), .int .i64 a, .int .i64 m, .int .i64 val] w (RelDP w0 g a m val w) := by
  have hgw := hc.lt
  have hw0w := size_of_ext hc.2.1
  have Hc0 := Lib.hid hc
  clear hc
  go_enter Try.func135, Try.ntmps135
  go_upto_region 1 with fail
  refine wp_name ?_
  intro W hW
  have xW : ∃ y, W = ext w y := by rw [hW.out]; exact (by refine x'z ?_; repeat (with_reducible (first | exact x'a _ _ | exact x'b _ | exact x'c (by assumption) | refine x'd ?_ (by assumption) | refine x'e ?_ _ | refine x'f ?_ _ | refine x'g ?_ | refine x'h ?_ ?_ _ | refine x'i ?_ _ | refine x'j ?_ | refine x'k ?_ _ | refine x'l ?_ _ _ | refine x'm ?_ | assumption | (refine x'n ?_; omega) | omega)))
  have BW0 : BoxAt W (w.heap.size) #[.int .i64 0, .slice none 0 0] := by rw [hW.out]; refine ⟨?_, fun j => ?_, fun j => ?_⟩ <;> go_simp
  obtain ⟨lW0, bW0, fW0⟩ := BW0
  have cW0_0 : W.cell? ⟨w.heap.size, 0, none⟩ = some (.int .i64 0) := bW0 0
  have cW0_1 : W.cell? ⟨w.heap.size, 1, none⟩ = some (.slice none 0 0) := bW0 1
  clear hW
  have HB := Lib.hid (show BoxAt W w.heap.size #[.int .i64 0, .slice none 0 0] from ⟨lW0, bW0, fW0⟩)
  clear bW0 fW0 cW0_0 cW0_1
  have HcW := Lib.hid (Hc0.out.toExt xW)
  have hS0 := SV.empty (α := List Int) (te := 48) (size := 1) (E := sRow) W
  have hcA := HcW.out.toExt (alloc_ext W (.cells #[] 48))
  have im : IntKind.i64.wrap ((m : Int) + 1) = (m : Int) + 1 := by rw [IntKind.wrap_i64]; omega
  go_wp2_with fail
  refine (l1Below_any hcA (by omega) (by omega)).mono ?_
  rintro e w1 ⟨x, rfl, hx0, hx1, hc1, hC1⟩
  obtain ⟨k0, rfl⟩ : ∃ k : Nat, x = k := ⟨x.toNat, by omega⟩
  have hS1 := hS0.chg hC1 (by simp; omega)
  have HB1 := Lib.hid ((HB.out.toExt (alloc_ext W (.cells #[] 48))).chg hC1 (by simp; omega))
  have HCW := Lib.hid (show Chg [g] w w1 from (((Chg.ofExt xW).alloc (.cells #[] 48))).trans hC1 (fun x hx => .inl hx))
  have hc1' := hc1
  have hzW := size_of_ext xW
  have hzw1 := hC1.size
  rw [World.size_alloc] at hzw1
  clear hS0 hcA hC1
  go_wp2_with fail
  go_loopw [9, 10] (fun v i wr => ∃ (k : Nat) (rows : List (List Int)) (F : List Nat), i = .int .i64 k ∧ SV 48 1 sRow wr v rows F ∧ F.Nodup ∧ (∀ b ∈ F, W.heap.size ≤ b) ∧ rows.length + k ≤ m ∧ (∀ x ∈ rows, x.length = a ∧ ∀ y ∈ x, 0 ≤ y ∧ y < val) ∧ Cur w0 wr g ∧ Chg [g] w wr ∧ BoxAt wr w.heap.size #[.int .i64 0, .slice none 0 0] ∧ W.heap.size ≤ wr.heap.size) (fun _ i _ => (intOf i).toNat)
  case atStart => exact ⟨k0, [], [W.heap.size], rfl, hS1, by simp, by simp, by simp; omega, by simp, hc1', HCW.out, HB1.out, by have := hzw1; omega⟩
  case round =>
    clear hS1 hc1 hc1'
    obtain ⟨k, rows, F, rfl, hS, hN, hF, hl, hr, hcr, hC, hBr, hWr⟩ := hrel
    have HBr := Lib.hid hBr
    have hBl := hBr.1
    have nBF : Hid (w.heap.size ∉ F) := Lib.hid (fun h => by have := hF _ h; omega)
    have HF := Lib.hid hF
    have HS := Lib.hid hS
    have HN := Lib.hid hN
    have HR := Lib.hid hr
    have HC := Lib.hid hC
    have Hcr := Lib.hid hcr
    have hzr := hC.size
    have hz1 := HCW.out.size
    have hgr := hcr.lt
    have ngF : Hid (∀ b ∈ F, b ∉ [g]) := Lib.hid (fun b hb h => by have := hF b hb; simp at h; omega)
    obtain ⟨A, cap, rfl, hcap, _⟩ := hS.form
    clear hS hF hC hN hr hcr hBr
    by_cases hlt : 0 < k
    · go_wp2_with fail
      refine (l4Row_any Hcr.out (by omega) hv (by omega)).mono ?_
      rintro e w2 ⟨v2, F2, xs, rfl, hS2, hF2, hl2, hr2, hc2, hC2⟩
      obtain ⟨A2, c2, rfl, _, _⟩ := hS2.form
      have HS2 := Lib.hid hS2
      have HF2 := Lib.hid hF2
      have Hc2 := Lib.hid hc2
      have hSk := HS.out.chg hC2 ngF.out
      have HCk := Lib.hid (HC.out.trans hC2 (fun x hx => .inl hx))
      have hNN := nodup_more HN.out hS2.nodup HS.out.lt hF2
      have HR2 := Lib.hid hr2
      have HL2 := Lib.hid hl2
      have hz2 := HCk.out.size
      have HC2 := Lib.hid hC2
      have hz22 := hC2.size
      clear hS2 hF2 hc2 hC2 hr2 hl2
      go_wp2_with (at_builtin; refine wpList_appN (E := sRow) (d := xs) (G := F2) rfl _ _ _ rfl tIIr rfl rfl rfl (by simp) ⟨_, rfl, HS2.out⟩ rfl (by simp [Value.oneCell']) hSk hNN (by omega) (by omega) ?_; intro v' w' F' hS' hC' hN' hF')
      have hFn : ∀ b ∈ F', W.heap.size ≤ b := fun b hb => by
        rcases hF' b hb with h | h | h
        · exact HF.out b h
        · have := HF2.out b h; omega
        · omega
      have hR' : ∀ y ∈ rows ++ [xs], y.length = a ∧ ∀ z ∈ y, 0 ≤ z ∧ z < val := fun y hy => by
        rcases List.mem_append.1 hy with h | h
        · exact HR.out y h
        · rw [List.mem_singleton.1 h]; exact ⟨HL2.out, HR2.out⟩
      exact ⟨⟨k - 1, rows ++ [xs], F', by go_num, hS', hN', hFn, by simp; omega, hR', Hc2.out.chg hC' (fun h => ngF.out g h (by simp)) (fun b hb => by have := HF.out b hb; omega), HCk.out.trans hC' (fun x hx => .inr (by have := HF.out x hx; omega)), (HBr.out.chg HC2.out (by simp; omega)).chg hC' nBF.out, by have := hC'.size; have := HC2.out.size; omega⟩, by simp [intOf]; omega⟩
    · obtain ⟨hnew, hD⟩ := relD_mk (a := a) (m := m) (val := val) (rows := rows) ha (by omega) hv2 (by omega) HR.out
      have HNEW := Lib.hid hnew
      have HD := Lib.hid hD
      have hV := HS.out.view (sSl_v sI_v)
      obtain ⟨_, _, e5, _, _, rV⟩ := hV
      injection e5 with e5 _ e6
      subst e5 e6
      have HRL : Hid (∀ x ∈ rows, x.length ≤ 1000000000) := Lib.hid (fun x hx => by have := (HR.out x hx).1; omega)
      clear hnew hD
      go_wp2_with fail
      refine (specNewRelation_any ⟨by omega, by omega⟩ (by omega) hcap HRL.out rV).mono ?_
      rintro e w3 ⟨u0, u1, F3, rfl, hx3, hS3, hN3, hF3⟩
      rw [HNEW.out] at hS3 ⊢
      obtain ⟨A3, c3, rfl, rfl, _⟩ := sRel_form hS3
      simp only [Option.getD_some, Option.isSome_some] at hS3 ⊢
      have B3 := HBr.out.toExt hx3
      obtain ⟨lr3, r30, r31, fr3⟩ := bx2 B3
      have HX3 := Lib.hid hx3
      have hz3 := size_of_ext hx3
      have HS3 := Lib.hid hS3
      have HN3 := Lib.hid hN3
      have HF3 := Lib.hid hF3
      clear hx3 hS3 hN3 hF3 B3
      go_wp2
      refine bodyPost_ret (v := .agg #[.int .i64 a, .slice A3 (sortR rows).length c3]) (by simp [results, Try.results135, go_sem, *]) rfl ?_
      show RelDP w0 g a m val w _ _
      have hC9 := (((Chg.refl [w.heap.size] w3).setCell (p := ⟨w.heap.size, 0, none⟩) (.inl (by simp)) (.int .i64 a)).setCell (p := ⟨w.heap.size, 1, none⟩) (.inl (by simp)) (.slice A3 (sortR rows).length c3)).alloc (.cells #[.int .i64 a, .slice A3 (sortR rows).length c3] 39)
      exact ⟨_, _, F3, _, rfl, OD.chg HS3.out hC9 (fun b hb h => by have := HF3.out b hb; rw [List.mem_singleton.1 h] at this; omega), HN3.out, fun b hb => by have := HF3.out b hb; omega, HD.out, (Hcr.out.toExt HX3.out).chg hC9 (by simp; omega) (by simp; omega), (HC.out.trans0 HX3.out).trans hC9 (fun x hx => .inr (by rw [List.mem_singleton.1 hx]; omega))⟩
theorem l5Rel_64 {g a : Nat} {w0 w : World} (hc : Cur w0 w g) (ha : a ≤ 5) : Calls Try.prog 135 #[.pointer (some ⟨g, 0, none⟩), .int .i64 a, .int .i64 6, .int .i64 4] w (RelDP w0 g a 6 4 w) := l5Rel_any (m := 6) hc ha (by omega) (by omega) (by omega)
structure AnyR (r : Rd) : Prop where
  a : I64 r.1
  n : r.2.length ≤ 7
  l : ∀ x ∈ r.2, x.length ≤ 10
def AnyRP (w0 : World) (g : Nat) (w : World) (e : Ending) (w' : World) : Prop := ∃ v0 v1 F r, e = .returned (.agg #[v0, v1]) ∧ sRel w' [v0, v1] r F ∧ F.Nodup ∧ (∀ b ∈ F, w.heap.size ≤ b) ∧ AnyR r ∧ Cur w0 w' g ∧ Chg [g] w w'
set_option maxRecDepth 100000 in
set_option maxHeartbeats 8000000 in
theorem l5Any_any {g : Nat} {w0 w : World} (hc : Cur w0 w g) : Calls Try.prog 129 #[.pointer (some ⟨g, 0, none⟩)] w (AnyRP w0 g w) := by
  have hgw := hc.lt
  have hw0w := size_of_ext hc.2.1
  have Hc0 := Lib.hid hc
  clear hc
  go_enter Try.func129, Try.ntmps129
  go_upto_region 1 with fail
  refine wp_name ?_
  intro W hW
  have xW : ∃ y, W = ext w y := by rw [hW.out]; exact (by refine x'z ?_; repeat (with_reducible (first | exact x'a _ _ | exact x'b _ | exact x'c (by assumption) | refine x'd ?_ (by assumption) | refine x'e ?_ _ | refine x'f ?_ _ | refine x'g ?_ | refine x'h ?_ ?_ _ | refine x'i ?_ _ | refine x'j ?_ | refine x'k ?_ _ | refine x'l ?_ _ _ | refine x'm ?_ | assumption | (refine x'n ?_; omega) | omega)))
  have BW0 : BoxAt W (w.heap.size) #[.int .i64 0, .slice none 0 0] := by rw [hW.out]; refine ⟨?_, fun j => ?_, fun j => ?_⟩ <;> go_simp
  obtain ⟨lW0, bW0, fW0⟩ := BW0
  have cW0_0 : W.cell? ⟨w.heap.size, 0, none⟩ = some (.int .i64 0) := bW0 0
  have cW0_1 : W.cell? ⟨w.heap.size, 1, none⟩ = some (.slice none 0 0) := bW0 1
  clear hW
  have HB := Lib.hid (show BoxAt W w.heap.size #[.int .i64 0, .slice none 0 0] from ⟨lW0, bW0, fW0⟩)
  clear bW0 fW0 cW0_0 cW0_1
  have HcW := Lib.hid (Hc0.out.toExt xW)
  go_wp2_with fail
  refine (l1Below_any HcW.out (by omega) (by omega)).mono ?_
  rintro e w1 ⟨x, rfl, hx0, hx1, hc1, hC1⟩
  obtain ⟨k, rfl⟩ : ∃ k : Nat, x = k := ⟨x.toNat, by omega⟩
  have hzW := size_of_ext xW
  have hz1 := hC1.size
  go_wp2_with fail
  refine (l5Rel_64 hc1 (by omega)).mono ?_
  rintro e w2 ⟨v0, v1, F2, r, rfl, hS2, hN2, hF2, hD2, hc2, hC2⟩
  obtain ⟨A2, c2, rfl, rfl, hI2⟩ := sRel_form hS2
  obtain ⟨ra, rows⟩ := r
  have har := hD2.ar
  dsimp only at har
  subst har
  have hrn := hD2.n
  have HRK := Lib.hid (show ∀ x ∈ rows, x.length = k from fun x hx => by have := ((rowsB_iff.1 hD2.ok).2.2.2.1 x hx).1; dsimp only at this; omega)
  have HRL := Lib.hid (show ∀ x ∈ rows, x.length ≤ 10 from fun x hx => by have := (rowsB_sz hD2.ok).rl x hx; omega)
  obtain ⟨v1', ev1, S2⟩ := hI2
  injection ev1 with ev1
  subst ev1
  dsimp only at S2 hrn ⊢
  have hz2 := hC2.size
  have HN2 := Lib.hid hN2
  have HF2 := Lib.hid hF2
  have HC2 := Lib.hid (((Chg.ofExt (F := [g]) xW).trans hC1 (fun x hx => .inl hx)).trans hC2 (fun x hx => .inl hx))
  have HR2 := Lib.hid ((HB.out.chg hC1 (by simp; omega)).chg hC2 (by simp; omega))
  clear hS2 hN2 hF2 hD2 hC1 hC2 hc1
  go_upto_region 2 with fail
  refine wp_name ?_
  intro W3 hW3
  have x3 : ∃ y, W3 = ext w2 y := by rw [hW3.out]; exact (by refine x'z ?_; repeat (with_reducible (first | exact x'a _ _ | exact x'b _ | exact x'c (by assumption) | refine x'd ?_ (by assumption) | refine x'e ?_ _ | refine x'f ?_ _ | refine x'g ?_ | refine x'h ?_ ?_ _ | refine x'i ?_ _ | refine x'j ?_ | refine x'k ?_ _ | refine x'l ?_ _ _ | refine x'm ?_ | assumption | (refine x'n ?_; omega) | omega)))
  have B3 : BoxAt W3 w2.heap.size #[.int .i64 k, .slice A2 rows.length c2] := by rw [hW3.out]; exact (by repeat (with_reducible (first | assumption | exact BoxAt.new _ _ _ | apply BoxAt.set2 | refine BoxAt.set2' ?_ (by omega) | apply BoxAt.setP0 | apply BoxAt.setP1 | refine BoxAt.setO ?_ (by omega) | refine BoxAt.alloc ?_ _ | refine BoxAt.drew ?_ | refine BoxAt.toExt ?_ (by assumption))))
  have hS3 := S2.toExt x3
  have hc3 := hc2.toExt x3
  have hFl := S2.lt
  obtain ⟨b3, q3⟩ : ∃ b, w2.heap.size = b := ⟨_, rfl⟩
  have h32 : w2.heap.size ≤ b3 := by omega
  rw [q3] at B3 hFl ⊢
  have h3W : b3 < W3.heap.size := B3.1
  have hz3 := size_of_ext x3
  have HC3 := Lib.hid (HC2.out.trans0 x3)
  have HR3 := Lib.hid (HR2.out.toExt x3)
  clear hW3 q3 S2 hc2
  go_wp2_with fail
  refine (l1Below_any hc3 (by omega) (by omega)).mono ?_
  rintro e w4 ⟨x, rfl, hx0, hx1, hc4, hC4⟩
  have n3g : b3 ≠ g := by omega
  have HB4 := Lib.hid (B3.chg hC4 (by simpa using n3g))
  have HS4 := Lib.hid (hS3.chg hC4 (fun b hb h => by have := HF2.out b hb; rw [List.mem_singleton.1 h] at this; omega))
  have HC4 := Lib.hid (HC3.out.trans hC4 (fun x hx => .inl hx))
  have HR4 := Lib.hid (HR3.out.chg hC4 (by simp; omega))
  have Hc4 := Lib.hid hc4
  have hz4 := hC4.size
  have HF4 := Lib.hid (show ∀ b ∈ F2, W.heap.size ≤ b ∧ b < b3 from fun b hb => ⟨by have := HF2.out b hb; omega, hFl b hb⟩)
  clear B3 hS3 hc3 hC4 hc4 hFl HF2 HC2 HR2 HC3 HR3 x3
  by_cases e0 : x = 0
  · have q0 : (x == 0) = true := by simp [e0]
    have q1 : (x == 1) = false := by simp [e0]
    have q2 : (x == 2) = false := by simp [e0]
    have ik : IntKind.i64.wrap ((k : Int) + 1) = (k : Int) + 1 := by rw [IntKind.wrap_i64]; omega
    obtain ⟨l4, k4, k4', f4⟩ := bx2 HB4.out
    clear e0
    go_wp2_with fail
    refine (l1PickInt_any (Hc4.out.toExt (alloc_ext _ _)) (by omega) (by omega) (BoxAt.new _ _ _) (by intro j hj; rcases j with _ | _ | _ | j <;> first | exact ⟨_, rfl⟩ | omega) (by omega)).mono ?_
    rintro e w5 ⟨z, j, rfl, hj, hz, hc5, hC5⟩
    have hzb : -1 ≤ z ∧ z ≤ 6 := by
      rcases j with _ | _ | _ | j <;> first | omega | (simp at hz; omega)
    have B5 := (HB4.out.alloc (.cells #[.int .i64 (-1), .int .i64 6, .int .i64 ((k : Int) + 1)] 3)).chg hC5 (by simpa using n3g)
    have R5 := (HR4.out.alloc (.cells #[.int .i64 (-1), .int .i64 6, .int .i64 ((k : Int) + 1)] 3)).chg hC5 (by simp; omega)
    have S5 := (HS4.out.toExt (alloc_ext w4 (.cells #[.int .i64 (-1), .int .i64 6, .int .i64 ((k : Int) + 1)] 3))).chg hC5 (fun b hb h => by have := HF4.out b hb; rw [List.mem_singleton.1 h] at this; omega)
    have C5 := (HC4.out.alloc (.cells #[.int .i64 (-1), .int .i64 6, .int .i64 ((k : Int) + 1)] 3)).trans hC5 (fun x hx => .inl hx)
    have hsC := (Chg.refl [b3] w5).setCell (p := ⟨b3, 0, none⟩) (.inl (by simp)) (.int .i64 z)
    have HB9 := Lib.hid (B5.setP0 (u' := .int .i64 z))
    have HR9 := Lib.hid (R5.chg hsC (by simp; omega))
    have HS9 := Lib.hid (S5.chg hsC (fun b hb h => by have := HF4.out b hb; rw [List.mem_singleton.1 h] at this; omega))
    have HC9 := Lib.hid (C5.trans hsC (fun x hx => .inr (by rw [List.mem_singleton.1 hx]; omega)))
    have Hc9 := Lib.hid (hc5.chg hsC (by simp; omega) (by simp; omega))
    have HN9 := HN2
    have HF9 := Lib.hid (show ∀ b ∈ F2, W.heap.size ≤ b from fun b hb => (HF4.out b hb).1)
    have HA9 := Lib.hid (show AnyR (z, rows) from ⟨⟨by dsimp only; omega, by dsimp only; omega⟩, by dsimp only; omega, HRL.out⟩)
    obtain ⟨l5, k5, k5', f5⟩ := bx2 B5
    clear l4 k4 k4' f4 hz hc5 hC5 B5 R5 S5 C5 hsC
    go_upto_region 10 with fail
    clear l5 k5 k5' f5
    obtain ⟨lf1, kf10, kf11, ff1⟩ := bx2 HB9.out
    obtain ⟨lf2, kf20, kf21, ff2⟩ := bx2 HR9.out
    go_wp2_with fail
    refine bodyPost_ret (v := .agg #[.int .i64 (z), .slice A2 rows.length c2]) (by simp [results, Try.results129, go_sem, *]) rfl ?_
    show AnyRP w0 g w _ _
    have hC9 := (((Chg.refl [w.heap.size] (w5.setCell ⟨b3, 0, none⟩ (.int .i64 z))).setCell (p := ⟨w.heap.size, 0, none⟩) (.inl (by simp)) (.int .i64 (z))).setCell (p := ⟨w.heap.size, 1, none⟩) (.inl (by simp)) (.slice A2 rows.length c2))
    exact ⟨_, _, F2, (z, rows), rfl, OD.chg (sRel_mk ⟨_, rfl, HS9.out⟩) hC9 (fun b hb h => by have := HF9.out b hb; rw [List.mem_singleton.1 h] at this; omega), HN9.out, fun b hb => by have := HF9.out b hb; omega, HA9.out, Hc9.out.chg hC9 (by simp; omega) (by simp; omega), HC9.out.trans hC9 (fun x hx => .inr (by rw [List.mem_singleton.1 hx]; omega))⟩
  · have q0 : (x == 0) = false := by simp [e0]
    by_cases e1 : x = 1
    · have q1 : (x == 1) = true := by simp [e1]
      have q2 : (x == 2) = false := by simp [e1]
      have hmax : (if 0 < k then (k : Int) else 0) = (k : Int) := by split <;> omega
      obtain ⟨l4, k4, k4', f4⟩ := bx2 HB4.out
      have h3F : b3 ∉ F2 := fun h => by have := HF4.out b3 h; omega
      clear e0 e1
      go_upto_region 6 with fail
      go_region_law (first
        | (refine step_appB (E := sRow) (d := xs) (G := F6) (cs := #[.slice A6 xs.length c6]) (by rfl) _ _ _ (by rfl) tIIr (by rfl) (by rfl) (by (repeat (with_reducible (first | assumption | exact BoxAt.new _ _ _ | apply BoxAt.set2 | refine BoxAt.set2' ?_ (by omega) | apply BoxAt.setP0 | apply BoxAt.setP1 | refine BoxAt.setO ?_ (by omega) | refine BoxAt.alloc ?_ _ | refine BoxAt.drew ?_ | refine BoxAt.toExt ?_ (by assumption))))) ⟨_, rfl, HS6.out.toExt (by refine x'z ?_; repeat (with_reducible (first | exact x'a _ _ | exact x'b _ | exact x'c (by assumption) | refine x'd ?_ (by assumption) | refine x'e ?_ _ | refine x'f ?_ _ | refine x'g ?_ | refine x'h ?_ ?_ _ | refine x'i ?_ _ | refine x'j ?_ | refine x'k ?_ _ | refine x'l ?_ _ _ | refine x'm ?_ | assumption | (refine x'n ?_; omega) | omega)))⟩ (by rfl) (by simp [Value.oneCell']) (HSO.out.toExt (by refine x'z ?_; repeat (with_reducible (first | exact x'a _ _ | exact x'b _ | exact x'c (by assumption) | refine x'd ?_ (by assumption) | refine x'e ?_ _ | refine x'f ?_ _ | refine x'g ?_ | refine x'h ?_ ?_ _ | refine x'i ?_ _ | refine x'j ?_ | refine x'k ?_ _ | refine x'l ?_ _ _ | refine x'm ?_ | assumption | (refine x'n ?_; omega) | omega)))) HNN.out (by omega) (by omega) ?_; intro v7 w7 F7 hS7 hC7 hN7 hF7; obtain ⟨A7, c7, rfl, _, _⟩ := hS7.form; have B7 := (HB6.out.toExt (by refine x'z ?_; repeat (with_reducible (first | exact x'a _ _ | exact x'b _ | exact x'c (by assumption) | refine x'd ?_ (by assumption) | refine x'e ?_ _ | refine x'f ?_ _ | refine x'g ?_ | refine x'h ?_ ?_ _ | refine x'i ?_ _ | refine x'j ?_ | refine x'k ?_ _ | refine x'l ?_ _ _ | refine x'm ?_ | assumption | (refine x'n ?_; omega) | omega)))).chg hC7 h3F; obtain ⟨l7, k7, k7', f7⟩ := bx2 B7)
        | (rw [if_pos (by simp [Region.wanted])]; go_wp2_with (go_at_call 155; refine (l4Row_any (n := k) (Hc4.out.toExt (drew_ext _)) (by omega) (by omega) (by omega)).mono ?_; rintro e w6 ⟨v6, F6, xs, rfl, hS6, hF6, hl6, hr6, hc6, hC6⟩; obtain ⟨A6, c6, rfl, _, _⟩ := hS6.form; have HS6 := Lib.hid hS6; have HF6 := Lib.hid hF6; have HL6 := Lib.hid hl6; have Hc6 := Lib.hid hc6; have HC6 := Lib.hid hC6; have B6 := (HB4.out.drew.chg hC6 (by simpa using n3g)); have HB6 := Lib.hid B6; obtain ⟨l6, k6, k6', f6⟩ := bx2 B6; have HSO := Lib.hid ((HS4.out.toExt (drew_ext _)).chg hC6 (fun b hb h => by have := HF4.out b hb; rw [List.mem_singleton.1 h] at this; omega)); have HNN := Lib.hid (nodup_more HN2.out hS6.nodup (HS4.out.lt) hF6); have hz6 := hC6.size; clear hS6 hF6 hl6 hr6 hc6 hC6 B6)))
      all_goals
        have hl1 : (rows ++ [xs]).length = rows.length + 1 := by simp
        have hF7n : ∀ b ∈ F7, W.heap.size ≤ b ∧ b ≠ b3 := fun b hb => by
          rcases hF7 b hb with h | h | h
          · have := HF4.out b h; exact ⟨this.1, by omega⟩
          · have := HF6.out b h; rw [show w4.drew.heap.size = w4.heap.size from rfl] at this; exact ⟨by omega, by omega⟩
          · simp at h; rw [show w4.drew.heap.size = w4.heap.size from rfl] at hz6; exact ⟨by omega, by omega⟩
        have hCw : Chg [g] w w7 := ((HC4.out.drew.trans HC6.out (fun x hx => .inl hx)).trans0 (by refine x'z ?_; repeat (with_reducible (first | exact x'a _ _ | exact x'b _ | exact x'c (by assumption) | refine x'd ?_ (by assumption) | refine x'e ?_ _ | refine x'f ?_ _ | refine x'g ?_ | refine x'h ?_ ?_ _ | refine x'i ?_ _ | refine x'j ?_ | refine x'k ?_ _ | refine x'l ?_ _ _ | refine x'm ?_ | assumption | (refine x'n ?_; omega) | omega)))).trans hC7 (fun x hx => .inr (by have := HF4.out x hx; omega))
        have hR7 : BoxAt w7 w.heap.size #[.int .i64 0, .slice none 0 0] := ((HR4.out.drew.chg HC6.out (by simp; omega)).toExt (by refine x'z ?_; repeat (with_reducible (first | exact x'a _ _ | exact x'b _ | exact x'c (by assumption) | refine x'd ?_ (by assumption) | refine x'e ?_ _ | refine x'f ?_ _ | refine x'g ?_ | refine x'h ?_ ?_ _ | refine x'i ?_ _ | refine x'j ?_ | refine x'k ?_ _ | refine x'l ?_ _ _ | refine x'm ?_ | assumption | (refine x'n ?_; omega) | omega)))).chg hC7 (fun h => by have := HF4.out _ h; omega)
        have hc7 : Cur w0 w7 g := (Hc6.out.toExt (by refine x'z ?_; repeat (with_reducible (first | exact x'a _ _ | exact x'b _ | exact x'c (by assumption) | refine x'd ?_ (by assumption) | refine x'e ?_ _ | refine x'f ?_ _ | refine x'g ?_ | refine x'h ?_ ?_ _ | refine x'i ?_ _ | refine x'j ?_ | refine x'k ?_ _ | refine x'l ?_ _ _ | refine x'm ?_ | assumption | (refine x'n ?_; omega) | omega)))).chg hC7 (fun h => by have := HF4.out _ h; omega) (fun b hb => by have := HF4.out _ hb; omega)
        rw [hl1] at hS7
        have hsC := (Chg.refl [b3] w7).setCell (p := ⟨b3, 1, none⟩) (.inl (by simp)) (.slice A7 (rows.length + 1) c7)
        have HB9 := Lib.hid (B7.setP1 (v' := .slice A7 (rows.length + 1) c7))
        have HR9 := Lib.hid (hR7.chg hsC (by simp; omega))
        have HS9 := Lib.hid (hS7.chg hsC (fun b hb h => (hF7n b hb).2 (List.mem_singleton.1 h)))
        have HC9 := Lib.hid (hCw.trans hsC (fun x hx => .inr (by rw [List.mem_singleton.1 hx]; omega)))
        have Hc9 := Lib.hid (hc7.chg hsC (by simp; omega) (by simp; omega))
        have HN9 := Lib.hid hN7
        have HF9 := Lib.hid (show ∀ b ∈ F7, W.heap.size ≤ b from fun b hb => (hF7n b hb).1)
        have HA9 := Lib.hid (show AnyR ((k : Int), rows ++ [xs]) from ⟨⟨by dsimp only; omega, by dsimp only; omega⟩, by dsimp only; omega, fun y hy => by
          rcases List.mem_append.1 hy with h | h
          · exact HRL.out y h
          · rw [List.mem_singleton.1 h, HL6.out]; omega⟩)
        clear hF7n hCw hR7 hc7 hsC hS7 hC7 hN7 hF7 B7 hl1
        go_upto_region 10 with fail
        clear l7 k7 k7' f7
        obtain ⟨lf1, kf10, kf11, ff1⟩ := bx2 HB9.out
        obtain ⟨lf2, kf20, kf21, ff2⟩ := bx2 HR9.out
        go_wp2_with fail
        refine bodyPost_ret (v := .agg #[.int .i64 ((k : Int)), .slice A7 (rows.length + 1) c7]) (by simp [results, Try.results129, go_sem, *]) rfl ?_
        show AnyRP w0 g w _ _
        have hC9 := (((Chg.refl [w.heap.size] (w7.setCell ⟨b3, 1, none⟩ (.slice A7 (rows.length + 1) c7))).setCell (p := ⟨w.heap.size, 0, none⟩) (.inl (by simp)) (.int .i64 ((k : Int)))).setCell (p := ⟨w.heap.size, 1, none⟩) (.inl (by simp)) (.slice A7 (rows.length + 1) c7))
        exact ⟨_, _, F7, ((k : Int), (rows ++ [xs])), rfl, OD.chg (sRel_mk ⟨_, rfl, HS9.out⟩) hC9 (fun b hb h => by have := HF9.out b hb; rw [List.mem_singleton.1 h] at this; omega), HN9.out, fun b hb => by have := HF9.out b hb; omega, HA9.out, Hc9.out.chg hC9 (by simp; omega) (by simp; omega), HC9.out.trans hC9 (fun x hx => .inr (by rw [List.mem_singleton.1 hx]; omega))⟩
    · have q1 : (x == 1) = false := by simp [e1]
      by_cases e2 : x = 2
      · have q2 : (x == 2) = true := by simp [e2]
        clear e0 e1 e2
        obtain ⟨l4, k4, k4', f4⟩ := bx2 HB4.out
        by_cases h8 : 0 < rows.length ∧ 0 < k
        · obtain ⟨hk0, hkp⟩ := h8
          obtain ⟨g2, cap2, hA, _, _, _⟩ := HS4.out.block (by intro e; rw [e] at hk0; simp at hk0)
          injection hA with hA _ hcp
          subst hA hcp
          obtain ⟨v0, F0, l0, c0, f0, hI, hIF, hIN, hg0, hg0F, _, _⟩ := HS4.out.row HN2.out hk0
          have hr0 := HRK.out rows[0] (List.getElem_mem hk0)
          obtain ⟨g1, cap1, rfl, hg1, _, _⟩ := hI.block (by intro e; rw [e] at hr0; simp at hr0; omega)
          rw [hr0] at c0
          have ng0 : g2 ≠ g := by have := HF4.out g2 hg0F; omega
          have hg4 := Hc4.out.lt
          have hg1F := hIF g1 hg1
          have ng1 : g1 ≠ g := by have := HF4.out g1 hg1F; omega
          have n13 : g1 ≠ b3 := by have := HF4.out g1 hg1F; omega
          have HI := Lib.hid hI
          have HIF := Lib.hid hIF
          clear hI hIF
          go_upto_region 9 with fail
          go_region_law (first
            | (rw [if_pos (by simp [Region.wanted])]; go_wp2_with (go_at_call 183; refine (l1PickInt_any (cs := #[.int .i64 (-1), .int .i64 100, .int .i64 99]) (Hc4.out.toExt (by refine x'z ?_; repeat (with_reducible (first | exact x'a _ _ | exact x'b _ | exact x'c (by assumption) | refine x'd ?_ (by assumption) | refine x'e ?_ _ | refine x'f ?_ _ | refine x'g ?_ | refine x'h ?_ ?_ _ | refine x'i ?_ _ | refine x'j ?_ | refine x'k ?_ _ | refine x'l ?_ _ _ | refine x'm ?_ | assumption | (refine x'n ?_; omega) | omega)))) (by omega) (by omega) (by first | exact BoxAt.new _ _ _ | exact (BoxAt.new _ _ _).drew) (by intro j hj; rcases j with _ | _ | _ | j <;> first | exact ⟨_, rfl⟩ | omega) (by omega)).mono ?_; rintro e w6 ⟨z, j, rfl, hj, hz, hc6, hC6⟩; have hS6 := (HS4.out.toExt (by refine x'z ?_; repeat (with_reducible (first | exact x'a _ _ | exact x'b _ | exact x'c (by assumption) | refine x'd ?_ (by assumption) | refine x'e ?_ _ | refine x'f ?_ _ | refine x'g ?_ | refine x'h ?_ ?_ _ | refine x'i ?_ _ | refine x'j ?_ | refine x'k ?_ _ | refine x'l ?_ _ _ | refine x'm ?_ | assumption | (refine x'n ?_; omega) | omega)))).chg hC6 (fun b hb h => by have := HF4.out b hb; rw [List.mem_singleton.1 h] at this; omega); have hI6 := (HI.out.toExt (by refine x'z ?_; repeat (with_reducible (first | exact x'a _ _ | exact x'b _ | exact x'c (by assumption) | refine x'd ?_ (by assumption) | refine x'e ?_ _ | refine x'f ?_ _ | refine x'g ?_ | refine x'h ?_ ?_ _ | refine x'i ?_ _ | refine x'j ?_ | refine x'k ?_ _ | refine x'l ?_ _ _ | refine x'm ?_ | assumption | (refine x'n ?_; omega) | omega)))).chg hC6 (fun b hb h => by have := HF4.out b (HIF.out b hb); rw [List.mem_singleton.1 h] at this; omega); obtain ⟨⟨u1, i3⟩, i4, i5⟩ := hI6.cell rfl (j := 0) (by rw [hr0]; omega); have HS6 := Lib.hid hS6; have Hc6 := Lib.hid hc6; have HZ6 := Lib.hid hz; have HC6 := Lib.hid (show Chg [g] w w6 from (HC4.out.trans0 (by refine x'z ?_; repeat (with_reducible (first | exact x'a _ _ | exact x'b _ | exact x'c (by assumption) | refine x'd ?_ (by assumption) | refine x'e ?_ _ | refine x'f ?_ _ | refine x'g ?_ | refine x'h ?_ ?_ _ | refine x'i ?_ _ | refine x'j ?_ | refine x'k ?_ _ | refine x'l ?_ _ _ | refine x'm ?_ | assumption | (refine x'n ?_; omega) | omega)))).trans hC6 (fun x hx => .inl hx)); have HB6 := Lib.hid ((HB4.out.toExt (by refine x'z ?_; repeat (with_reducible (first | exact x'a _ _ | exact x'b _ | exact x'c (by assumption) | refine x'd ?_ (by assumption) | refine x'e ?_ _ | refine x'f ?_ _ | refine x'g ?_ | refine x'h ?_ ?_ _ | refine x'i ?_ _ | refine x'j ?_ | refine x'k ?_ _ | refine x'l ?_ _ _ | refine x'm ?_ | assumption | (refine x'n ?_; omega) | omega)))).chg hC6 (by simpa using n3g)); have HR6 := Lib.hid ((HR4.out.toExt (by refine x'z ?_; repeat (with_reducible (first | exact x'a _ _ | exact x'b _ | exact x'c (by assumption) | refine x'd ?_ (by assumption) | refine x'e ?_ _ | refine x'f ?_ _ | refine x'g ?_ | refine x'h ?_ ?_ _ | refine x'i ?_ _ | refine x'j ?_ | refine x'k ?_ _ | refine x'l ?_ _ _ | refine x'm ?_ | assumption | (refine x'n ?_; omega) | omega)))).chg hC6 (by simp; omega)); have hz6 := hC6.size; have e6 : w6.cell? ⟨g2, 0, none⟩ = some (.slice (some ⟨g1, 0, none⟩) k cap1) := (by rw [hC6.cell (b := g2) (o := 0) (by simpa using ng0) (by simp; omega)]; go_simp); obtain ⟨l6, k6, k6', f6⟩ := bx2 HB6.out; have l26 : g2 < w6.heap.size := Nat.lt_of_lt_of_le (by simp; omega) hz6; clear hz hc6 hC6 hS6 hI6)))
          all_goals
            obtain ⟨v0', F0', _, c0', _, hI', hIF', _, _, _, hupd, _⟩ := HS6.out.row HN2.out hk0
            rw [e6] at c0'
            injection c0' with c0'
            subst c0'
            obtain ⟨hI3, hC3⟩ := hI'.set1 hr0 hkp (u := .int .i64 z) (d := z) (fun _ => ⟨rfl, rfl⟩)
            obtain ⟨_, _, e9, hg19, _, _⟩ := hI'.block (by intro e; rw [e] at hr0; simp at hr0; omega)
            injection e9 with e9 e9b e9c
            clear e9b e9c
            injection e9 with e9
            injection e9 with e9 e9d e9e
            clear e9d e9e
            subst e9
            have hS3 := hupd _ _ hI3 (hC3.mono (fun x hx => .inl (by rw [List.mem_singleton.1 hx]; exact hg19)))
            have hg1W := (HF4.out g1 hg1F).1
            have HB9 := Lib.hid (HB6.out.chg hC3 (by simp; omega))
            have HR9 := Lib.hid (HR6.out.chg hC3 (by simp; omega))
            have HS9 := Lib.hid hS3
            have HC9 := Lib.hid (HC6.out.trans hC3 (fun x hx => .inr (by rw [List.mem_singleton.1 hx]; omega)))
            have Hc9 := Lib.hid (Hc6.out.chg hC3 (by simp; omega) (by simp; omega))
            have HN9 := HN2
            have HF9 := Lib.hid (show ∀ b ∈ F2, W.heap.size ≤ b from fun b hb => (HF4.out b hb).1)
            have HA9 := Lib.hid (show AnyR ((k : Int), rows.set 0 (rows[0].set 0 z)) from ⟨⟨by dsimp only; omega, by dsimp only; omega⟩, by dsimp only; rw [List.length_set]; omega, fun y hy => by
              rcases List.mem_or_eq_of_mem_set hy with h | h
              · exact HRL.out y h
              · rw [h, List.length_set]; omega⟩)
            clear hI' hIF' hupd hI3 hC3 hS3 hg19
            go_upto_region 10 with fail
            refine wp_name ?_
            intro WX hWX
            rw [← hWX.out] at HB9 HR9 HS9 HC9 Hc9
            clear l6 k6 k6' f6 i3 i4 i5 hWX
            obtain ⟨lf1, kf10, kf11, ff1⟩ := bx2 HB9.out
            obtain ⟨lf2, kf20, kf21, ff2⟩ := bx2 HR9.out
            go_wp2_with fail
            refine bodyPost_ret (v := .agg #[.int .i64 ((k : Int)), .slice (some ⟨g2, 0, none⟩) rows.length c2]) (by simp [results, Try.results129, go_sem, *]) rfl ?_
            show AnyRP w0 g w _ _
            have hC9 := (((Chg.refl [w.heap.size] WX).setCell (p := ⟨w.heap.size, 0, none⟩) (.inl (by simp)) (.int .i64 ((k : Int)))).setCell (p := ⟨w.heap.size, 1, none⟩) (.inl (by simp)) (.slice (some ⟨g2, 0, none⟩) rows.length c2))
            exact ⟨_, _, F2, ((k : Int), (rows.set 0 (rows[0].set 0 z))), rfl, OD.chg (sRel_mk ⟨_, rfl, HS9.out⟩) hC9 (fun b hb h => by have := HF9.out b hb; rw [List.mem_singleton.1 h] at this; omega), HN9.out, fun b hb => by have := HF9.out b hb; omega, HA9.out, Hc9.out.chg hC9 (by simp; omega) (by simp; omega), HC9.out.trans hC9 (fun x hx => .inr (by rw [List.mem_singleton.1 hx]; omega))⟩
        · by_cases h80 : 0 < rows.length
          · have h81 : ¬ 0 < k := fun h => h8 ⟨h80, h⟩
            clear h8
            go_upto_region 10 with fail
            clear l4 k4 k4' f4
            have HB9 := HB4
            have HR9 := HR4
            have HS9 := HS4
            have HC9 := HC4
            have Hc9 := Hc4
            have HN9 := HN2
            have HF9 := Lib.hid (show ∀ b ∈ F2, W.heap.size ≤ b from fun b hb => (HF4.out b hb).1)
            have HA9 := Lib.hid (show AnyR ((k : Int), rows) from ⟨⟨by dsimp only; omega, by dsimp only; omega⟩, by dsimp only; omega, HRL.out⟩)
            obtain ⟨lf1, kf10, kf11, ff1⟩ := bx2 HB9.out
            obtain ⟨lf2, kf20, kf21, ff2⟩ := bx2 HR9.out
            go_wp2_with fail
            refine bodyPost_ret (v := .agg #[.int .i64 ((k : Int)), .slice A2 rows.length c2]) (by simp [results, Try.results129, go_sem, *]) rfl ?_
            show AnyRP w0 g w _ _
            have hC9 := (((Chg.refl [w.heap.size] w4).setCell (p := ⟨w.heap.size, 0, none⟩) (.inl (by simp)) (.int .i64 ((k : Int)))).setCell (p := ⟨w.heap.size, 1, none⟩) (.inl (by simp)) (.slice A2 rows.length c2))
            exact ⟨_, _, F2, ((k : Int), rows), rfl, OD.chg (sRel_mk ⟨_, rfl, HS9.out⟩) hC9 (fun b hb h => by have := HF9.out b hb; rw [List.mem_singleton.1 h] at this; omega), HN9.out, fun b hb => by have := HF9.out b hb; omega, HA9.out, Hc9.out.chg hC9 (by simp; omega) (by simp; omega), HC9.out.trans hC9 (fun x hx => .inr (by rw [List.mem_singleton.1 hx]; omega))⟩
          · clear h8
            go_upto_region 10 with fail
            clear l4 k4 k4' f4
            have HB9 := HB4
            have HR9 := HR4
            have HS9 := HS4
            have HC9 := HC4
            have Hc9 := Hc4
            have HN9 := HN2
            have HF9 := Lib.hid (show ∀ b ∈ F2, W.heap.size ≤ b from fun b hb => (HF4.out b hb).1)
            have HA9 := Lib.hid (show AnyR ((k : Int), rows) from ⟨⟨by dsimp only; omega, by dsimp only; omega⟩, by dsimp only; omega, HRL.out⟩)
            obtain ⟨lf1, kf10, kf11, ff1⟩ := bx2 HB9.out
            obtain ⟨lf2, kf20, kf21, ff2⟩ := bx2 HR9.out
            go_wp2_with fail
            refine bodyPost_ret (v := .agg #[.int .i64 ((k : Int)), .slice A2 rows.length c2]) (by simp [results, Try.results129, go_sem, *]) rfl ?_
            show AnyRP w0 g w _ _
            have hC9 := (((Chg.refl [w.heap.size] w4).setCell (p := ⟨w.heap.size, 0, none⟩) (.inl (by simp)) (.int .i64 ((k : Int)))).setCell (p := ⟨w.heap.size, 1, none⟩) (.inl (by simp)) (.slice A2 rows.length c2))
            exact ⟨_, _, F2, ((k : Int), rows), rfl, OD.chg (sRel_mk ⟨_, rfl, HS9.out⟩) hC9 (fun b hb h => by have := HF9.out b hb; rw [List.mem_singleton.1 h] at this; omega), HN9.out, fun b hb => by have := HF9.out b hb; omega, HA9.out, Hc9.out.chg hC9 (by simp; omega) (by simp; omega), HC9.out.trans hC9 (fun x hx => .inr (by rw [List.mem_singleton.1 hx]; omega))⟩
      · have q2 : (x == 2) = false := by simp [e2]
        clear e0 e1 e2
        go_upto_region 10 with fail
        have HB9 := HB4
        have HR9 := HR4
        have HS9 := HS4
        have HC9 := HC4
        have Hc9 := Hc4
        have HN9 := HN2
        have HF9 := Lib.hid (show ∀ b ∈ F2, W.heap.size ≤ b from fun b hb => (HF4.out b hb).1)
        have HA9 := Lib.hid (show AnyR ((k : Int), rows) from ⟨⟨by dsimp only; omega, by dsimp only; omega⟩, by dsimp only; omega, HRL.out⟩)
        obtain ⟨lf1, kf10, kf11, ff1⟩ := bx2 HB9.out
        obtain ⟨lf2, kf20, kf21, ff2⟩ := bx2 HR9.out
        go_wp2_with fail
        refine bodyPost_ret (v := .agg #[.int .i64 ((k : Int)), .slice A2 rows.length c2]) (by simp [results, Try.results129, go_sem, *]) rfl ?_
        show AnyRP w0 g w _ _
        have hC9 := (((Chg.refl [w.heap.size] w4).setCell (p := ⟨w.heap.size, 0, none⟩) (.inl (by simp)) (.int .i64 ((k : Int)))).setCell (p := ⟨w.heap.size, 1, none⟩) (.inl (by simp)) (.slice A2 rows.length c2))
        exact ⟨_, _, F2, ((k : Int), rows), rfl, OD.chg (sRel_mk ⟨_, rfl, HS9.out⟩) hC9 (fun b hb h => by have := HF9.out b hb; rw [List.mem_singleton.1 h] at this; omega), HN9.out, fun b hb => by have := HF9.out b hb; omega, HA9.out, Hc9.out.chg hC9 (by simp; omega) (by simp; omega), HC9.out.trans hC9 (fun x hx => .inr (by rw [List.mem_singleton.1 hx]; omega))⟩
end Go.Proofs.Ytfigcfajkilhiaa
