/- Contracts of functions that the statement reaches. -/
import Derived.Test.YtbjpkfgkmilkdaaG13
namespace Go.Proofs.Ytbjpkfgkmilkdaa
open Go.RowKit
def QcP (q : Qd) (w : World) (e : Ending) (w' : World) : Prop := ∃ v0 v1 v2 F, e = .returned (.agg #[v0, v1, v2]) ∧ (∃ y, w' = ext w y) ∧ sQ w' [v0, v1, v2] q F ∧ F.Nodup ∧ ∀ b ∈ F, w.heap.size ≤ b
set_option maxRecDepth 100000 in
set_option maxHeartbeats 40000000 in
theorem l7Copy_any {A B : Option Addr} {c e : Nat} {q : Qd} {w : World} (hb : QaD q) (h : vQ w [.int .i64 q.1, .slice A q.2.1.length c, .slice B q.2.2.length e] q) :
    Calls Try.prog 71 #[.agg #[.int .i64 q.1, .slice A q.2.1.length c, .slice B q.2.2.length e]] w (QcP q w) := by
  obtain ⟨r1, r2, _⟩ := vQ_get h
  have r1 := (vAts_get r1).2
  have hn := hb.n
  have ho := hb.o
  have HAB := Lib.hid hb.a
  clear h hb
  go_enter Try.func71, Try.ntmps71
  go_upto_region 1 with fail
  refine wp_name ?_
  intro W hW
  have xW : ∃ y, W = ext w y := by rw [hW.out]; exact (by refine x'z ?_; repeat (with_reducible (first | exact x'a _ _ | exact x'b _ | exact x'c (by assumption) | refine x'd ?_ (by assumption) | refine x'e ?_ _ | refine x'f ?_ _ | refine x'g ?_ | refine x'h ?_ ?_ _ | refine x'i ?_ _ | refine x'j ?_ | refine x'k ?_ _ | refine x'l ?_ _ _ | refine x'm ?_ | assumption | (refine x'n ?_; omega) | omega)))
  have BW0 : BoxAt W (w.heap.size) #[.int .i64 q.1, .slice A q.2.1.length c, .slice B q.2.2.length e] := by rw [hW.out]; refine ⟨?_, fun j => ?_, fun j => ?_⟩ <;> go_simp
  obtain ⟨lW0, bW0, fW0⟩ := BW0
  have cW0_0 : W.cell? ⟨w.heap.size, 0, none⟩ = some (.int .i64 q.1) := bW0 0
  have cW0_1 : W.cell? ⟨w.heap.size, 1, none⟩ = some (.slice A q.2.1.length c) := bW0 1
  have cW0_2 : W.cell? ⟨w.heap.size, 2, none⟩ = some (.slice B q.2.2.length e) := bW0 2
  have BW1 : BoxAt W (w.heap.size + 1) #[.int .i64 0, .slice none 0 0, .slice none 0 0] := by rw [hW.out]; refine ⟨?_, fun j => ?_, fun j => ?_⟩ <;> go_simp
  obtain ⟨lW1, bW1, fW1⟩ := BW1
  have cW1_0 : W.cell? ⟨w.heap.size + 1, 0, none⟩ = some (.int .i64 0) := bW1 0
  have cW1_1 : W.cell? ⟨w.heap.size + 1, 1, none⟩ = some (.slice none 0 0) := bW1 1
  have cW1_2 : W.cell? ⟨w.heap.size + 1, 2, none⟩ = some (.slice none 0 0) := bW1 2
  clear hW
  have HP := Lib.hid (show BoxAt W w.heap.size #[.int .i64 q.1, .slice A q.2.1.length c, .slice B q.2.2.length e] from ⟨lW0, bW0, fW0⟩)
  have HR := Lib.hid (show BoxAt W (w.heap.size + 1) #[.int .i64 0, .slice none 0 0, .slice none 0 0] from ⟨lW1, bW1, fW1⟩)
  clear bW0 bW1 fW1 cW1_0 cW1_1 cW1_2
  have hE2 : SV 3 1 sI ((W.alloc (.cells #[.int .i64 0, .slice none 0 0, .slice none 0 0] 44)).alloc (.cells #[] 3)) (.slice (some ⟨W.heap.size + 1, 0, none⟩) 0 0) ([] : List Int) [W.heap.size + 1] := by simpa using SV.empty (α := Int) (te := 3) (size := 1) (E := sI) (W.alloc (.cells #[.int .i64 0, .slice none 0 0, .slice none 0 0] 44))
  go_cut [3] (fun v wx => ∃ b B' e' FO, v = .pointer (some ⟨b, 0, none⟩) ∧ BoxAt wx b #[.int .i64 q.1, .slice none 0 0, .slice B' q.2.2.length e'] ∧ SV 3 1 sI wx (.slice B' q.2.2.length e') q.2.2 FO ∧ (∀ x ∈ FO, W.heap.size ≤ x ∧ x ≠ b) ∧ W.heap.size ≤ b ∧ ∃ y, wx = ext W y)
  case first =>
    go_region_held3 (fun w' => (∀ a : Addr, a.block < W.heap.size → w'.cell? a = W.cell? a) ∧ ∃ y, w' = ext W y) (first | exact heldE (by refine x'z ?_; repeat (with_reducible (first | exact x'a _ _ | exact x'b _ | exact x'c (by assumption) | refine x'd ?_ (by assumption) | refine x'e ?_ _ | refine x'f ?_ _ | refine x'g ?_ | refine x'h ?_ ?_ _ | refine x'i ?_ _ | refine x'j ?_ | refine x'k ?_ _ | refine x'l ?_ _ _ | refine x'm ?_ | assumption | (refine x'n ?_; omega) | omega)))) (first
      | (refine step_appV (E := sI) (V := vI) (es := q.2.2) (by rfl) _ _ _ (by rfl) tI (by rfl) ((SV.empty W).toExt ?_) (by rfl) (by rfl) (r2.toExt ?_) vI_s vI_1 (by simp; omega) (by omega) ?_; (focus (exact (by refine x'z ?_; repeat (with_reducible (first | exact x'a _ _ | exact x'b _ | exact x'c (by assumption) | refine x'd ?_ (by assumption) | refine x'e ?_ _ | refine x'f ?_ _ | refine x'g ?_ | refine x'h ?_ ?_ _ | refine x'i ?_ _ | refine x'j ?_ | refine x'k ?_ _ | refine x'l ?_ _ _ | refine x'm ?_ | assumption | (refine x'n ?_; omega) | omega))))); (focus (exact (trans_ext xW (by refine x'z ?_; repeat (with_reducible (first | exact x'a _ _ | exact x'b _ | exact x'c (by assumption) | refine x'd ?_ (by assumption) | refine x'e ?_ _ | refine x'f ?_ _ | refine x'g ?_ | refine x'h ?_ ?_ _ | refine x'i ?_ _ | refine x'j ?_ | refine x'k ?_ _ | refine x'l ?_ _ _ | refine x'm ?_ | assumption | (refine x'n ?_; omega) | omega)))))); intro v8 w8 F8 hS8 hC8 hF8; obtain ⟨A8, c8, rfl, _, _⟩ := hS8.form; have hx8 : ∃ y, w8 = ext W y := hC8.isExt (by refine x'z ?_; repeat (with_reducible (first | exact x'a _ _ | exact x'b _ | exact x'c (by assumption) | refine x'd ?_ (by assumption) | refine x'e ?_ _ | refine x'f ?_ _ | refine x'g ?_ | refine x'h ?_ ?_ _ | refine x'i ?_ _ | refine x'j ?_ | refine x'k ?_ _ | refine x'l ?_ _ _ | refine x'm ?_ | assumption | (refine x'n ?_; omega) | omega))) (by simp); try (have BX8 := (BoxAt.new (W.alloc (.cells #[] 3)) #[.int .i64 0, .slice none 0 0, .slice none 0 0] 44).drew.chg hC8 (by simp); rw [World.size_alloc] at BX8; obtain ⟨l6, b6, b6', b6'', f6⟩ := box3 BX8))
      | (refine step_appV (E := sI) (V := vI) (es := q.2.2) (by rfl) _ _ _ (by rfl) tI (by rfl) (hE2.toExt ?_) (by rfl) (by rfl) (r2.toExt ?_) vI_s vI_1 (by simp; omega) (by omega) ?_; (focus (exact (by refine x'z ?_; repeat (with_reducible (first | exact x'a _ _ | exact x'b _ | exact x'c (by assumption) | refine x'd ?_ (by assumption) | refine x'e ?_ _ | refine x'f ?_ _ | refine x'g ?_ | refine x'h ?_ ?_ _ | refine x'i ?_ _ | refine x'j ?_ | refine x'k ?_ _ | refine x'l ?_ _ _ | refine x'm ?_ | assumption | (refine x'n ?_; omega) | omega))))); (focus (exact (trans_ext xW (by refine x'z ?_; repeat (with_reducible (first | exact x'a _ _ | exact x'b _ | exact x'c (by assumption) | refine x'd ?_ (by assumption) | refine x'e ?_ _ | refine x'f ?_ _ | refine x'g ?_ | refine x'h ?_ ?_ _ | refine x'i ?_ _ | refine x'j ?_ | refine x'k ?_ _ | refine x'l ?_ _ _ | refine x'm ?_ | assumption | (refine x'n ?_; omega) | omega)))))); intro v8 w8 F8 hS8 hC8 hF8; obtain ⟨A8, c8, rfl, _, _⟩ := hS8.form; have hx8 : ∃ y, w8 = ext W y := hC8.isExt (by refine x'z ?_; repeat (with_reducible (first | exact x'a _ _ | exact x'b _ | exact x'c (by assumption) | refine x'd ?_ (by assumption) | refine x'e ?_ _ | refine x'f ?_ _ | refine x'g ?_ | refine x'h ?_ ?_ _ | refine x'i ?_ _ | refine x'j ?_ | refine x'k ?_ _ | refine x'l ?_ _ _ | refine x'm ?_ | assumption | (refine x'n ?_; omega) | omega))) (by simp); have BX8 := (((BoxAt.new W #[.int .i64 0, .slice none 0 0, .slice none 0 0] 44).alloc (.cells #[] 3)).drew).chg hC8 (by simp); obtain ⟨l6, b6, b6', b6'', f6⟩ := box3 BX8))
    all_goals
      go_wp2_with fail
      go_meet
      have hS9 : SV 3 1 sI w8 (.slice A8 q.2.2.length c8) q.2.2 F8 := by simpa using hS8
      have hz8 := hC8.size
      have hlt8 := hS9.lt
      simp only [World.size_alloc, World.drew, List.mem_singleton] at hz8 hF8
      first
        | exact ⟨w8.heap.size, A8, c8, F8, rfl, BoxAt.new _ _ _, hS9.toExt (alloc_ext _ _), fun x hx => ⟨by have := hF8 x hx; omega, by have := hlt8 x hx; omega⟩, by omega, (by refine x'z ?_; repeat (with_reducible (first | exact x'a _ _ | exact x'b _ | exact x'c (by assumption) | refine x'd ?_ (by assumption) | refine x'e ?_ _ | refine x'f ?_ _ | refine x'g ?_ | refine x'h ?_ ?_ _ | refine x'i ?_ _ | refine x'j ?_ | refine x'k ?_ _ | refine x'l ?_ _ _ | refine x'm ?_ | assumption | (refine x'n ?_; omega) | omega)))⟩
        | exact ⟨W.heap.size + 1, A8, c8, F8, rfl, (by repeat (with_reducible (first | assumption | exact BoxAt.new _ _ _ | apply BoxAt.set3 | refine BoxAt.set3' ?_ (by omega) | apply BoxAt.set30 | apply BoxAt.set31 | apply BoxAt.set32 | apply BoxAt.set2 | refine BoxAt.set2' ?_ (by omega) | apply BoxAt.setP0 | apply BoxAt.setP1 | refine BoxAt.setO ?_ (by omega) | refine BoxAt.alloc ?_ _ | refine BoxAt.drew ?_ | refine BoxAt.toExt ?_ (by assumption)))), hS9.chg (G := [W.heap.size + 1]) (by repeat (with_reducible (first | exact Chg.refl _ _ | refine Chg.trans0 ?_ (by assumption) | refine Chg.extS ?_ _ | refine Chg.alloc ?_ _ | refine Chg.drew ?_ | refine Chg.setCell ?_ (.inl (by simp)) _))) (fun x hx hm => by have := hF8 x hx; rw [List.mem_singleton.1 hm] at this; omega), fun x hx => by have := hF8 x hx; omega, by omega, (by refine x'z ?_; repeat (with_reducible (first | exact x'a _ _ | exact x'b _ | exact x'c (by assumption) | refine x'd ?_ (by assumption) | refine x'e ?_ _ | refine x'f ?_ _ | refine x'g ?_ | refine x'h ?_ ?_ _ | refine x'i ?_ _ | refine x'j ?_ | refine x'k ?_ _ | refine x'l ?_ _ _ | refine x'm ?_ | assumption | (refine x'n ?_; omega) | omega)))⟩
        | exact ⟨W.heap.size, A8, c8, F8, rfl, (by repeat (with_reducible (first | assumption | exact BoxAt.new _ _ _ | apply BoxAt.set3 | refine BoxAt.set3' ?_ (by omega) | apply BoxAt.set30 | apply BoxAt.set31 | apply BoxAt.set32 | apply BoxAt.set2 | refine BoxAt.set2' ?_ (by omega) | apply BoxAt.setP0 | apply BoxAt.setP1 | refine BoxAt.setO ?_ (by omega) | refine BoxAt.alloc ?_ _ | refine BoxAt.drew ?_ | refine BoxAt.toExt ?_ (by assumption)))), hS9.chg (G := [W.heap.size]) (by repeat (with_reducible (first | exact Chg.refl _ _ | refine Chg.trans0 ?_ (by assumption) | refine Chg.extS ?_ _ | refine Chg.alloc ?_ _ | refine Chg.drew ?_ | refine Chg.setCell ?_ (.inl (by simp)) _))) (fun x hx hm => by have := hF8 x hx; rw [List.mem_singleton.1 hm] at this; omega), fun x hx => by have := hF8 x hx; omega, by omega, (by refine x'z ?_; repeat (with_reducible (first | exact x'a _ _ | exact x'b _ | exact x'c (by assumption) | refine x'd ?_ (by assumption) | refine x'e ?_ _ | refine x'f ?_ _ | refine x'g ?_ | refine x'h ?_ ?_ _ | refine x'i ?_ _ | refine x'j ?_ | refine x'k ?_ _ | refine x'l ?_ _ _ | refine x'm ?_ | assumption | (refine x'n ?_; omega) | omega)))⟩
  obtain ⟨bX, B', e', FO, rfl, BX, hSO, hFO, hbX, hxX⟩ := hcut
  obtain ⟨W2, rfl⟩ : ∃ W, W = wc := ⟨_, rfl⟩
  have HFO := Lib.hid hFO
  have HP2 := Lib.hid (HP.out.toExt hxX)
  have HR2 := Lib.hid (HR.out.toExt hxX)
  have HSO := Lib.hid hSO
  have HBX := Lib.hid BX
  have hbW : bX < W2.heap.size := BX.1
  have hx2 := trans_ext xW hxX
  have hzX := size_of_ext hxX
  have hFOl := Lib.hid hSO.lt
  clear hE2 hFO hSO BX lW0 fW0 cW0_0 cW0_1 cW0_2
  go_wp2_with fail
  go_loopw [4] (fun i wr => ∃ (k : Nat) (A' : Option Addr) (c' : Nat) (F : List Nat), i = .int .i64 k ∧ k ≤ q.2.1.length ∧ Hid (BoxAt wr bX #[.int .i64 q.1, .slice A' k c', .slice B' q.2.2.length e']) ∧ Hid (SV 89 2 sAt wr (.slice A' k c') (q.2.1.take k) F) ∧ Hid F.Nodup ∧ Hid (∀ b ∈ F, W2.heap.size ≤ b) ∧ Hid (Chg [bX] W2 wr)) (fun i _ => q.2.1.length - (intOf i).toNat)
  case atStart => exact ⟨0, none, 0, [], rfl, by omega, HBX, Lib.hid SV.nil, Lib.hid (by simp), Lib.hid (by simp), Lib.hid (Chg.refl _ _)⟩
  case round =>
    obtain ⟨k, A', c', F, rfl, hk, HB, HS, HN, HF, HC⟩ := hrel
    have hw : ∃ y, wr = ext w y := HC.out.isExt hx2 (by simp; omega)
    have hzr := HC.out.size
    have HPr := Lib.hid (HP2.out.chg HC.out (by simp; omega))
    obtain ⟨lp, p0, p1, p2, fp⟩ := box3 HPr.out
    obtain ⟨lx, x0, x1, x2, fx⟩ := box3 HB.out
    by_cases hlt : k < q.2.1.length
    · obtain ⟨b, o, A1, c1, rfl, hb, hc0, hc1, hv⟩ := (r1.toExt hw).atA hlt
      have lx5 := (HAB.out q.2.1[k] (List.getElem_mem hlt)).2
      have Ht := Lib.hid (show q.2.1.take (k + 1) = q.2.1.take k ++ [q.2.1[k]] from List.take_succ_eq_append_getElem hlt)
      have HL := Lib.hid (show (q.2.1.take k).length = k by simp; omega)
      have hSlt := Lib.hid HS.out.lt
      have HV := Lib.hid hv
      obtain ⟨x, hx1⟩ : ∃ x, q.2.1[k] = x := ⟨_, rfl⟩
      rw [hx1] at hc0 hc1 lx5 Ht HV
      have hXF : bX ∉ F := fun h => by have := HF.out bX h; omega
      clear hx1 hv
      have hbw : b < w.heap.size := by obtain ⟨b', _, _, _, e', h', _⟩ := r1.atA hlt; injection e' with e'; injection e' with e'; subst e'; exact h'
      have hbF : b ∉ F := fun h => by have := HF.out b h; have := size_of_ext hx2; omega
      have nbX : b ≠ bX := by have := hbX; have := size_of_ext xW; omega
      have npX : w.heap.size ≠ bX := by have := HP.out.1; omega
      have nbX' : bX ≠ b := fun e => nbX e.symm
      have npX' : bX ≠ w.heap.size := fun e => npX e.symm
      have hpF : w.heap.size ∉ F := fun h => by have := HF.out _ h; have := HP2.out.1; omega
      go_upto_region 5 with fail
      refine wp_region_last (S := (fun w' => w'.cell? ⟨bX, 1, none⟩ = some (.slice A' k c') ∧ w'.cell? ⟨w.heap.size, 1, none⟩ = some (.slice (some ⟨b, o, none⟩) q.2.1.length c) ∧ w'.cell? ⟨b, o + k * 2, none⟩ = some (.string x.1) ∧ w'.cell? ⟨b, o + k * 2 + 1, none⟩ = some (.slice A1 x.2.length c1))) 20 (by kernel_rfl) (by kernel_rfl) ?_ (fun hHeld => ?_)
      · ((try dsimp only); go_keep)
      refine wpAnyH_take (i := 0) (v := ?_) (by simp only [List.getElem?_toArray, List.getElem?_cons_zero]; rfl) (by kernel_rfl) (by kernel_rfl) (by kernel_rfl) (by exact fun _ _ _ h => h) (Or.inl ⟨by rfl, ?_⟩) (by assumption) ?_
      rotate_left
      · (intro wS hSw; (try dsimp only at hSw); go_simp; try (with_reducible rfl))
      try simp only [Act.put, List.setIfInBounds_toArray, List.set_cons_zero, List.set_cons_succ]
      refine wpAnyH_take (i := 1) (v := ?_) (by simp only [List.getElem?_toArray, List.getElem?_cons_succ, List.getElem?_cons_zero]; rfl) (by kernel_rfl) (by kernel_rfl) (by kernel_rfl) (by exact fun _ _ _ h => h) (Or.inl ⟨by rfl, ?_⟩) (by assumption) ?_
      rotate_left
      · (intro wS hSw; (try dsimp only at hSw); go_simp; try (with_reducible rfl))
      try simp only [Act.put, List.setIfInBounds_toArray, List.set_cons_zero, List.set_cons_succ]
      refine wpAnyH_take (i := 2) (v := ?_) (by simp only [List.getElem?_toArray, List.getElem?_cons_succ, List.getElem?_cons_zero]; rfl) (by kernel_rfl) (by kernel_rfl) (by kernel_rfl) (by exact fun _ _ _ h => h) (Or.inl ⟨by rfl, ?_⟩) (by assumption) ?_
      rotate_left
      · (intro wS hSw; (try dsimp only at hSw); go_simp; try (with_reducible rfl))
      try simp only [Act.put, List.setIfInBounds_toArray, List.set_cons_zero, List.set_cons_succ]
      refine wpAnyH_take (i := 3) (v := ?_) (by simp only [List.getElem?_toArray, List.getElem?_cons_succ, List.getElem?_cons_zero]; rfl) (by kernel_rfl) (by kernel_rfl) (by kernel_rfl) (by exact fun _ _ _ h => h) (Or.inl ⟨by rfl, ?_⟩) (by assumption) ?_
      rotate_left
      · (intro wS hSw; (try dsimp only at hSw); go_simp; try (with_reducible rfl))
      try simp only [Act.put, List.setIfInBounds_toArray, List.set_cons_zero, List.set_cons_succ]
      refine wpAnyH_take (i := 4) (v := ?_) (by simp only [List.getElem?_toArray, List.getElem?_cons_succ, List.getElem?_cons_zero]; rfl) (by kernel_rfl) (by kernel_rfl) (by kernel_rfl) (by exact fun _ _ _ h => h) (Or.inl ⟨by rfl, ?_⟩) (by assumption) ?_
      rotate_left
      · (intro wS hSw; (try dsimp only at hSw); go_simp; try (with_reducible rfl))
      try simp only [Act.put, List.setIfInBounds_toArray, List.set_cons_zero, List.set_cons_succ]
      refine wpAnyH_take (i := 5) (v := ?_) (by simp only [List.getElem?_toArray, List.getElem?_cons_succ, List.getElem?_cons_zero]; rfl) (by kernel_rfl) (by kernel_rfl) (by kernel_rfl) (by exact fun _ _ _ h => h) (Or.inl ⟨by rfl, ?_⟩) (by assumption) ?_
      rotate_left
      · (intro wS hSw; (try dsimp only at hSw); go_simp; try (with_reducible rfl))
      try simp only [Act.put, List.setIfInBounds_toArray, List.set_cons_zero, List.set_cons_succ]
      refine wpAnyH_take (i := 6) (v := ?_) (by simp only [List.getElem?_toArray, List.getElem?_cons_succ, List.getElem?_cons_zero]; rfl) (by kernel_rfl) (by kernel_rfl) (by kernel_rfl) (by exact fun _ _ _ h => h) (Or.inl ⟨by rfl, ?_⟩) (by assumption) ?_
      rotate_left
      · (intro wS hSw; (try dsimp only at hSw); go_simp; try (with_reducible rfl))
      try simp only [Act.put, List.setIfInBounds_toArray, List.set_cons_zero, List.set_cons_succ]
      refine wpAnyH_take (i := 7) (v := ?_) (by simp only [List.getElem?_toArray, List.getElem?_cons_succ, List.getElem?_cons_zero]; rfl) (by kernel_rfl) (by kernel_rfl) (by kernel_rfl) (by exact fun _ _ _ h => h) (Or.inl ⟨by rfl, ?_⟩) (by assumption) ?_
      rotate_left
      · (intro wS hSw; (try dsimp only at hSw); go_simp; try (with_reducible rfl))
      try simp only [Act.put, List.setIfInBounds_toArray, List.set_cons_zero, List.set_cons_succ]
      refine wpAnyH_take (i := 9) (v := ?_) (by simp only [List.getElem?_toArray, List.getElem?_cons_succ, List.getElem?_cons_zero]; rfl) (by kernel_rfl) (by kernel_rfl) (by kernel_rfl) (by exact fun _ _ _ h => h) (Or.inl ⟨by rfl, ?_⟩) (by assumption) ?_
      rotate_left
      · (intro wS hSw; (try dsimp only at hSw); go_simp; try (with_reducible rfl))
      try simp only [Act.put, List.setIfInBounds_toArray, List.set_cons_zero, List.set_cons_succ]
      refine wpAnyH_take (i := 10) (v := ?_) (by simp only [List.getElem?_toArray, List.getElem?_cons_succ, List.getElem?_cons_zero]; rfl) (by kernel_rfl) (by kernel_rfl) (by kernel_rfl) (by exact fun _ _ _ h => h) (Or.inl ⟨by rfl, ?_⟩) (by assumption) ?_
      rotate_left
      · (intro wS hSw; (try dsimp only at hSw); go_simp; try (with_reducible rfl))
      try simp only [Act.put, List.setIfInBounds_toArray, List.set_cons_zero, List.set_cons_succ]
      refine wpAnyH_take (i := 11) (v := ?_) (by simp only [List.getElem?_toArray, List.getElem?_cons_succ, List.getElem?_cons_zero]; rfl) (by kernel_rfl) (by kernel_rfl) (by kernel_rfl) (by exact fun _ _ _ h => h) (Or.inl ⟨by rfl, ?_⟩) (by assumption) ?_
      rotate_left
      · (intro wS hSw; (try dsimp only at hSw); go_simp; try (with_reducible rfl))
      try simp only [Act.put, List.setIfInBounds_toArray, List.set_cons_zero, List.set_cons_succ]
      refine wpAnyH_take (i := 12) (v := ?_) (by simp only [List.getElem?_toArray, List.getElem?_cons_succ, List.getElem?_cons_zero]; rfl) (by kernel_rfl) (by kernel_rfl) (by kernel_rfl) (by exact fun _ _ _ h => h) (Or.inl ⟨by rfl, ?_⟩) (by assumption) ?_
      rotate_left
      · (intro wS hSw; (try dsimp only at hSw); go_simp; try (with_reducible rfl))
      try simp only [Act.put, List.setIfInBounds_toArray, List.set_cons_zero, List.set_cons_succ]
      refine wpAnyH_take (i := 13) (v := ?_) (by simp only [List.getElem?_toArray, List.getElem?_cons_succ, List.getElem?_cons_zero]; rfl) (by kernel_rfl) (by kernel_rfl) (by kernel_rfl) (by exact fun _ _ _ h => h) (Or.inl ⟨by rfl, ?_⟩) (by assumption) ?_
      rotate_left
      · (intro wS hSw; (try dsimp only at hSw); go_simp; try (with_reducible rfl))
      try simp only [Act.put, List.setIfInBounds_toArray, List.set_cons_zero, List.set_cons_succ]
      refine wpAnyH_take (i := 14) (v := ?_) (by simp only [List.getElem?_toArray, List.getElem?_cons_succ, List.getElem?_cons_zero]; rfl) (by kernel_rfl) (by kernel_rfl) (by kernel_rfl) (by exact fun _ _ _ h => h) (Or.inl ⟨by rfl, ?_⟩) (by assumption) ?_
      rotate_left
      · (intro wS hSw; (try dsimp only at hSw); go_simp; try (with_reducible rfl))
      try simp only [Act.put, List.setIfInBounds_toArray, List.set_cons_zero, List.set_cons_succ]
      refine wpAnyH_ready (rs := [8]) (by kernel_rfl) (by simp) ?_
      refine AllReadyH.cons (by simp only [List.getElem?_toArray, List.getElem?_cons_succ, List.getElem?_cons_zero]; rfl) (fun K hK => ?_) AllReadyH.nil
      go_simp
      refine hK.out _ _ ?_ (fun hHeld2 => ?_)
      · ((try dsimp only); go_keep)
      clear hHeld hK K
      have hHeld := hHeld2
      clear hHeld2
      try simp only [Act.put, List.setIfInBounds_toArray, List.set_cons_zero, List.set_cons_succ]
      refine wpAnyH_ready (rs := [15]) (by kernel_rfl) (by simp) ?_
      refine AllReadyH.cons (by simp only [List.getElem?_toArray, List.getElem?_cons_succ, List.getElem?_cons_zero]; rfl) (fun K hK => ?_) AllReadyH.nil
      (refine step_appV (E := sI) (V := vI) (es := x.2) (by rfl) _ _ _ (by rfl) tI (by rfl) ((SV.empty wr).toExt (drew_ext _)) (by rfl) (by rfl) (HV.out.toExt (by refine x'z ?_; repeat (with_reducible (first | exact x'a _ _ | exact x'b _ | exact x'c (by assumption) | refine x'd ?_ (by assumption) | refine x'e ?_ _ | refine x'f ?_ _ | refine x'g ?_ | refine x'h ?_ ?_ _ | refine x'i ?_ _ | refine x'j ?_ | refine x'k ?_ _ | refine x'l ?_ _ _ | refine x'm ?_ | assumption | (refine x'n ?_; omega) | omega)))) vI_s vI_1 (by simp; omega) (by omega) ?_; intro v6 w6 F6 hS6 hC6 hF6; obtain ⟨A6, c6, rfl, _, _⟩ := hS6.form; have B6 := ((HB.out.alloc (.cells #[] 3)).drew).chg hC6 (by simp; omega); obtain ⟨l6, q6, q6', q6'', f6⟩ := box3 B6; obtain ⟨m6, s6, s6', s6'', g6⟩ := box3 (((HPr.out.alloc (.cells #[] 3)).drew).chg hC6 (by simp; omega)); have hc06 : w6.cell? ⟨b, o + k * 2, none⟩ = some (.string x.1) := (by rw [hC6.cell (b := b) (by simp; omega) (by simp; omega)]; go_simp); have hc16 : w6.cell? ⟨b, o + k * 2 + 1, none⟩ = some (.slice A1 x.2.length c1) := (by rw [hC6.cell (b := b) (by simp; omega) (by simp; omega)]; go_simp); have lb6 : b < w6.heap.size := Nat.lt_of_lt_of_le (by simp; omega) hC6.size)
      refine hK.out _ _ ?_ (fun hHeld2 => ?_)
      · ((try dsimp only); go_keep)
      clear hHeld hK K
      have hHeld := hHeld2
      clear hHeld2
      try simp only [Act.put, List.setIfInBounds_toArray, List.set_cons_zero, List.set_cons_succ]
      refine wpAnyH_take (i := 16) (v := ?_) (by simp only [List.getElem?_toArray, List.getElem?_cons_succ, List.getElem?_cons_zero]; rfl) (by kernel_rfl) (by kernel_rfl) (by kernel_rfl) (by exact fun _ _ _ h => h) (Or.inl ⟨by rfl, ?_⟩) (by assumption) ?_
      rotate_left
      · (intro wS hSw; (try dsimp only at hSw); go_simp; try (with_reducible rfl))
      try simp only [Act.put, List.setIfInBounds_toArray, List.set_cons_zero, List.set_cons_succ]
      refine wpAnyH_ready (rs := [17]) (by kernel_rfl) (by simp) ?_
      refine AllReadyH.cons (by simp only [List.getElem?_toArray, List.getElem?_cons_succ, List.getElem?_cons_zero]; rfl) (fun K hK => ?_) AllReadyH.nil
      go_simp
      refine hK.out _ _ ?_ (fun hHeld2 => ?_)
      · ((try dsimp only); go_keep)
      clear hHeld hK K
      have hHeld := hHeld2
      clear hHeld2
      try simp only [Act.put, List.setIfInBounds_toArray, List.set_cons_zero, List.set_cons_succ]
      refine wpAnyH_ready (rs := [18]) (by kernel_rfl) (by simp) ?_
      refine AllReadyH.cons (by simp only [List.getElem?_toArray, List.getElem?_cons_succ, List.getElem?_cons_zero]; rfl) (fun K hK => ?_) AllReadyH.nil
      (refine step_appB (E := sAt) (d := x) (G := F6) (cs := #[.string x.1, .slice A6 x.2.length c6]) (by rfl) _ _ _ (by rfl) tA (by rfl) (by rfl) (by exact BoxAt.new _ _ _) (sAt_mk (hS6.toExt (alloc_ext _ _))) (by rfl) (by simp [Value.oneCell']) (((HS.out.toExt (trans_ext (alloc_ext _ _) (drew_ext _))).chg hC6 (fun b hb h => by have := hSlt.out b hb; simp at h; omega)).toExt (alloc_ext _ _)) (nodup_more HN.out hS6.nodup hSlt.out (fun b hb => by rcases hF6 b hb with h | h <;> simp at h <;> omega)) (by rw [HL.out]; omega) (by omega) ?_; intro v7 w7 F7 hS7 hC7 hN7 hF7; obtain ⟨A7, c7, rfl, _, _⟩ := hS7.form; have B7 := (B6.alloc (.cells #[.string x.1, .slice A6 x.2.length c6] 89)).chg hC7 hXF; obtain ⟨l7, q7, q7', q7'', f7⟩ := box3 B7; obtain ⟨m7, s7, s7', s7'', g7⟩ := box3 ((((HPr.out.alloc (.cells #[] 3)).drew).chg hC6 (by simp; omega)).alloc (.cells #[.string x.1, .slice A6 x.2.length c6] 89) |>.chg hC7 hpF); have hc07 : w7.cell? ⟨b, o + k * 2, none⟩ = some (.string x.1) := (by rw [hC7.cell (b := b) hbF (by simp; omega)]; go_simp); have hc17 : w7.cell? ⟨b, o + k * 2 + 1, none⟩ = some (.slice A1 x.2.length c1) := (by rw [hC7.cell (b := b) hbF (by simp; omega)]; go_simp); have lb7 : b < w7.heap.size := Nat.lt_of_lt_of_le (by simp; omega) hC7.size)
      refine hK.out _ _ ?_ (fun hHeld2 => ?_)
      · ((try dsimp only); go_keep)
      clear hHeld hK K
      have hHeld := hHeld2
      clear hHeld2
      try simp only [Act.put, List.setIfInBounds_toArray, List.set_cons_zero, List.set_cons_succ]
      refine wpAnyH_take (i := 19) (v := ?_) (by simp only [List.getElem?_toArray, List.getElem?_cons_succ, List.getElem?_cons_zero]; rfl) (by kernel_rfl) (by kernel_rfl) (by kernel_rfl) (by exact fun _ _ _ h => h) (Or.inl ⟨by rfl, ?_⟩) (by assumption) ?_
      rotate_left
      · (intro wS hSw; (try dsimp only at hSw); go_simp; try (with_reducible rfl))
      try simp only [Act.put, List.setIfInBounds_toArray, List.set_cons_zero, List.set_cons_succ]
      refine wpAnyH_done (by kernel_rfl) ?_ _
      refine LastQ.go (by simp only [List.getElem?_toArray, List.getElem?_cons_succ, List.getElem?_cons_zero]; rfl) (fun K hK => ?_)
      go_simp
      refine hK.out _ _ ?_
      clear hHeld hK K
      try simp only [Act.put, List.setIfInBounds_toArray, List.set_cons_zero, List.set_cons_succ]
      all_goals
        have hz6 := hC6.size
        simp only [World.size_alloc, World.drew] at hz6
        have hn6 : ∀ b ∈ F6, wr.heap.size ≤ b := fun b hb => by
          rcases hF6 b hb with h | h
          · simp at h; omega
          · simp at h; omega
        have hF7n : ∀ b ∈ F7, W2.heap.size ≤ b := fun b hb => by
          rcases hF7 b hb with h | h | h
          · exact HF.out b h
          · have := hn6 b h; omega
          · rw [World.size_alloc] at h; omega
        have hCa := (((((HC.out.alloc (.cells #[] 3)).drew).trans hC6 (fun x hx => .inr (by simp at hx; omega))).alloc (.cells #[.string x.1, .slice A6 x.2.length c6] 89)).trans hC7 (fun x hx => .inr (HF.out x hx))).setCell (p := ⟨bX, 1, none⟩) (.inl (by simp)) (.slice A7 ((q.2.1.take k) ++ [x]).length c7)
        have hSf := hS7.chg ((Chg.refl [bX] w7).setCell (p := ⟨bX, 1, none⟩) (.inl (by simp)) (.slice A7 ((q.2.1.take k) ++ [x]).length c7)) (fun b hb h => by have := hF7n b hb; rw [List.mem_singleton.1 h] at this; omega)
        have hBf := B7.set31 (u := .slice A7 ((q.2.1.take k) ++ [x]).length c7)
        have hl1 : ((q.2.1.take k) ++ [x]).length = k + 1 := by simp; omega
        rw [hl1, ← Ht.out] at hSf
        rw [hl1] at hBf hCa
        have HH := Lib.hid (And.intro hSf (And.intro hBf (And.intro hCa hF7n)))
        have HN7 := Lib.hid hN7
        have HL1 := Lib.hid hl1
        clear hCa hF7n hSf hBf hS7 hC7 hN7 hF7 B7 hS6 hF6 hn6 hl1
        go_wp2
        exact ⟨⟨k + 1, A7, c7, F7, by go_num, by omega, Lib.hid HH.out.2.1, Lib.hid HH.out.1, HN7, Lib.hid HH.out.2.2.2, Lib.hid HH.out.2.2.1⟩, by simp [intOf]; omega⟩
    · obtain rfl : k = q.2.1.length := by omega
      have HS9 := Lib.hid (show SV 89 2 sAt wr (.slice A' q.2.1.length c') q.2.1 F from by
        have h := HS.out
        rw [List.take_of_length_le (Nat.le_refl _)] at h
        exact h)
      have HO9 := Lib.hid (HSO.out.chg HC.out (fun b hb h => by have := HFO.out b hb; rw [List.mem_singleton.1 h] at this; omega))
      obtain ⟨m0, n0, n0', n0'', g0⟩ := box3 (HR2.out.chg HC.out (by simp; omega))
      clear HS
      go_wp2
      refine bodyPost_ret (v := .agg #[.int .i64 q.1, .slice A' q.2.1.length c', .slice B' q.2.2.length e']) (by simp [results, Try.results71, go_sem, *]) rfl ?_
      show QcP q w _ _
      have hC9 := (((Chg.refl [w.heap.size + 1] wr).setCell (p := ⟨w.heap.size + 1, 0, none⟩) (.inl (by simp)) (.int .i64 q.1)).setCell (p := ⟨w.heap.size + 1, 1, none⟩) (.inl (by simp)) (.slice A' q.2.1.length c')).setCell (p := ⟨w.heap.size + 1, 2, none⟩) (.inl (by simp)) (.slice B' q.2.2.length e')
      exact ⟨_, _, _, F ++ FO, rfl, hC9.isExt hw (by simp), OD.chg (sQ_mk (z := q.1) HS9.out HO9.out) hC9 (fun b hb h => by
        rw [List.mem_singleton.1 h] at hb
        rcases List.mem_append.1 hb with h | h
        · have := HF.out _ h; omega
        · have := HFO.out _ h; omega), List.nodup_append.2 ⟨HN.out, HSO.out.nodup, fun a ha b hb e => by
          have h1 := HF.out a ha
          have h2 := hFOl.out b hb
          omega⟩, fun b hb => by
        rcases List.mem_append.1 hb with h | h
        · have := HF.out _ h; omega
        · have := HFO.out _ h; omega⟩
def TwoQP (w : World) (e : Ending) (w' : World) : Prop := ∃ A c B c' A1 c1 B1 c1' q p, e = .returned (.tuple #[.agg #[.int .i64 q.1, .slice A q.2.1.length c, .slice B q.2.2.length c'], .agg #[.int .i64 p.1, .slice A1 p.2.1.length c1, .slice B1 p.2.2.length c1']]) ∧ vQ w' [.int .i64 q.1, .slice A q.2.1.length c, .slice B q.2.2.length c'] q ∧ vQ w' [.int .i64 p.1, .slice A1 p.2.1.length c1, .slice B1 p.2.2.length c1'] p ∧ QaD q ∧ QaD p ∧ ∃ y, w' = ext w y
set_option maxRecDepth 100000 in
set_option maxHeartbeats 8000000 in
theorem DrawEqualQueries_any {A : Option Addr} {c : Nat} {bs : List UInt8} {w : World} (hx : bs.length ≤ 1048576) (h1 : RU w A bs) :
    Calls Try.prog 27 #[.slice A bs.length c] w (TwoQP w) := by
  go_enter Try.func27, Try.ntmps27
  go_upto_region 1 with fail
  refine wp_name ?_
  intro W hW
  have xW : ∃ y, W = ext w y := by rw [hW.out]; exact (by refine x'z ?_; repeat (with_reducible (first | exact x'a _ _ | exact x'b _ | exact x'c (by assumption) | refine x'd ?_ (by assumption) | refine x'e ?_ _ | refine x'f ?_ _ | refine x'g ?_ | refine x'h ?_ ?_ _ | refine x'i ?_ _ | refine x'j ?_ | refine x'k ?_ _ | refine x'l ?_ _ _ | refine x'm ?_ | assumption | (refine x'n ?_; omega) | omega)))
  have BW0 : BoxAt W (w.heap.size) #[.int .i64 0, .slice none 0 0, .slice none 0 0] := by rw [hW.out]; refine ⟨?_, fun j => ?_, fun j => ?_⟩ <;> go_simp
  obtain ⟨lW0, bW0, fW0⟩ := BW0
  have cW0_0 : W.cell? ⟨w.heap.size, 0, none⟩ = some (.int .i64 0) := bW0 0
  have cW0_1 : W.cell? ⟨w.heap.size, 1, none⟩ = some (.slice none 0 0) := bW0 1
  have cW0_2 : W.cell? ⟨w.heap.size, 2, none⟩ = some (.slice none 0 0) := bW0 2
  have BW1 : BoxAt W (w.heap.size + 1) #[.int .i64 0, .slice none 0 0, .slice none 0 0] := by rw [hW.out]; refine ⟨?_, fun j => ?_, fun j => ?_⟩ <;> go_simp
  obtain ⟨lW1, bW1, fW1⟩ := BW1
  have cW1_0 : W.cell? ⟨w.heap.size + 1, 0, none⟩ = some (.int .i64 0) := bW1 0
  have cW1_1 : W.cell? ⟨w.heap.size + 1, 1, none⟩ = some (.slice none 0 0) := bW1 1
  have cW1_2 : W.cell? ⟨w.heap.size + 1, 2, none⟩ = some (.slice none 0 0) := bW1 2
  clear hW
  have HR := Lib.hid (show BoxAt W w.heap.size #[.int .i64 0, .slice none 0 0, .slice none 0 0] from ⟨lW0, bW0, fW0⟩)
  have HT := Lib.hid (show BoxAt W (w.heap.size + 1) #[.int .i64 0, .slice none 0 0, .slice none 0 0] from ⟨lW1, bW1, fW1⟩)
  clear bW0 fW0 cW0_0 cW0_1 cW0_2 bW1 fW1 cW1_0 cW1_1 cW1_2
  go_wp2_with fail
  refine (l1New_any hx (h1.toExt xW)).mono ?_
  rintro e w1 ⟨g, rfl, hc1⟩
  have hg1 := hc1.1
  have hgl := hc1.lt
  have HR1 := Lib.hid (HR.out.toExt hc1.2.1)
  have HT1 := Lib.hid (HT.out.toExt hc1.2.1)
  have hz1 := size_of_ext hc1.2.1
  clear HR HT
  go_wp2_with fail
  refine (l7Any_any hc1).mono ?_
  rintro e w2 ⟨u0, u1, u2, F, q, rfl, hS, hN, hF, hD, hc2, hC2⟩
  obtain ⟨A2, a2, B2, b2, rfl, rfl, rfl⟩ := sQ_form hS
  have HS := Lib.hid hS
  have HF := Lib.hid (show ∀ b ∈ F, w.heap.size + 1 < b from fun b hb => by have := hF b hb; omega)
  have HFg := Lib.hid (show ∀ b ∈ F, g < b from fun b hb => by have := hF b hb; omega)
  have HD := Lib.hid hD
  have HR2 := Lib.hid (HR1.out.chg hC2 (by simp; omega))
  have HT2 := Lib.hid (HT1.out.chg hC2 (by simp; omega))
  have Hc2 := Lib.hid hc2
  have hz2 := hC2.size
  clear hS hN hF hD hc2 hC2 hc1 HR1 HT1
  go_upto_region 3 with fail
  refine wp_name ?_
  intro W3 hW3
  have x3 : ∃ y, W3 = ext w2 y := by rw [hW3.out]; exact (by refine x'z ?_; repeat (with_reducible (first | exact x'a _ _ | exact x'b _ | exact x'c (by assumption) | refine x'd ?_ (by assumption) | refine x'e ?_ _ | refine x'f ?_ _ | refine x'g ?_ | refine x'h ?_ ?_ _ | refine x'i ?_ _ | refine x'j ?_ | refine x'k ?_ _ | refine x'l ?_ _ _ | refine x'm ?_ | assumption | (refine x'n ?_; omega) | omega)))
  have B5 : BoxAt W3 w2.heap.size #[.int .i64 q.1, .slice A2 q.2.1.length a2, .slice B2 q.2.2.length b2] := by rw [hW3.out]; exact (by repeat (with_reducible (first | assumption | exact BoxAt.new _ _ _ | apply BoxAt.set3 | refine BoxAt.set3' ?_ (by omega) | apply BoxAt.set30 | apply BoxAt.set31 | apply BoxAt.set32 | apply BoxAt.set2 | refine BoxAt.set2' ?_ (by omega) | apply BoxAt.setP0 | apply BoxAt.setP1 | refine BoxAt.setO ?_ (by omega) | refine BoxAt.alloc ?_ _ | refine BoxAt.drew ?_ | refine BoxAt.toExt ?_ (by assumption))))
  have HR3 := Lib.hid (HR2.out.toExt x3)
  have HT3 := Lib.hid (HT2.out.toExt x3)
  have HS3 := Lib.hid (OD.toExt HS.out x3)
  have Hc3 := Lib.hid (Hc2.out.toExt x3)
  have HB3 := Lib.hid B5
  obtain ⟨b5, q5⟩ : ∃ b, w2.heap.size = b := ⟨_, rfl⟩
  have hz3 := size_of_ext x3
  rw [q5] at HB3 B5 hz2 hz3 ⊢
  have h53 : b5 < W3.heap.size := B5.1
  have n5g : b5 ≠ g := by omega
  clear hW3 q5 B5 HR2 HT2 HS Hc2 x3
  go_wp2_with fail
  refine (l1Once_any Hc3.out (by omega) (by omega)).mono ?_
  rintro e w3 ⟨t, rfl, hc4, hC4⟩
  have HR4 := Lib.hid (HR3.out.chg hC4 (by simp; omega))
  have HT4 := Lib.hid (HT3.out.chg hC4 (by simp; omega))
  have HS4 := Lib.hid (OD.chg HS3.out hC4 (fun b hb h => by have := HFg.out b hb; rw [List.mem_singleton.1 h] at this; omega))
  have HB4 := Lib.hid (HB3.out.chg hC4 (by simpa using n5g))
  have Hc4 := Lib.hid hc4
  have hz4 := hC4.size
  obtain ⟨l5, k50, k51, k52, f5⟩ := box3 HB4.out
  clear hc4 hC4 HR3 HT3 HS3 HB3 Hc3
  cases t with
  | true =>
    go_upto_region 4 with fail
    go_region_with (first | (go_at_call 59; (with_reducible refine (l7Any_any (Hc4.out.toExt (drew_ext _))).mono ?_); rintro e w4 ⟨u0, u1, u2, G, p, rfl, hS5, hN5, hF5, hD5, hc5, hC5⟩; obtain ⟨A4, a4, B4, b4, rfl, rfl, rfl⟩ := sQ_form hS5; obtain ⟨l52, k502, k512, k522, f52⟩ := box3 ((HR4.out.drew).chg hC5 (by simp; omega)); obtain ⟨l53, k503, k513, k523, f53⟩ := box3 ((HT4.out.drew).chg hC5 (by simp; omega)); obtain ⟨l54, k504, k514, k524, f54⟩ := box3 ((HB4.out.drew).chg hC5 (by simpa using n5g)); have S1 := Lib.hid (OD.chg (OD.toExt HS4.out (drew_ext _)) hC5 (fun b hb h => by have := HFg.out b hb; rw [List.mem_singleton.1 h] at this; omega)); have S2 := Lib.hid hS5; have HDP := Lib.hid hD5; have HG := Lib.hid (show ∀ b ∈ G, w.heap.size + 1 < b from fun b hb => by have h := hF5 b hb; rw [show w3.drew.heap.size = w3.heap.size from rfl] at h; omega); have HX4 := Lib.hid (trans_ext xW hc5.2.1); clear hS5 hN5 hF5 hD5 hc5 hC5))
    all_goals
      go_wp2
      refine bodyPost_ret (v := .tuple #[.agg #[.int .i64 q.1, .slice A2 q.2.1.length a2, .slice B2 q.2.2.length b2], .agg #[.int .i64 p.1, .slice A4 p.2.1.length a4, .slice B4 p.2.2.length b4]]) (by simp [results, Try.results27, go_sem, *]) rfl ?_
      show TwoQP w _ _
      have hC9 := ((((((Chg.refl [w.heap.size, w.heap.size + 1] w4).setCell (p := ⟨w.heap.size, 0, none⟩) (.inl (by simp)) (.int .i64 q.1)).setCell (p := ⟨w.heap.size, 1, none⟩) (.inl (by simp)) (.slice A2 q.2.1.length a2)).setCell (p := ⟨w.heap.size, 2, none⟩) (.inl (by simp)) (.slice B2 q.2.2.length b2)).setCell (p := ⟨w.heap.size + 1, 0, none⟩) (.inl (by simp)) (.int .i64 p.1)).setCell (p := ⟨w.heap.size + 1, 1, none⟩) (.inl (by simp)) (.slice A4 p.2.1.length a4)).setCell (p := ⟨w.heap.size + 1, 2, none⟩) (.inl (by simp)) (.slice B4 p.2.2.length b4)
      exact ⟨_, _, _, _, _, _, _, _, q, p, rfl, sQ_v _ _ _ (OD.chg S1.out hC9 (fun b hb h => by have := HF.out b hb; simp at h; omega)), sQ_v _ _ _ (OD.chg S2.out hC9 (fun b hb h => by have := HG.out b hb; simp at h; omega)), HD.out, HDP.out, hC9.isExt HX4.out (by simp)⟩
  | false =>
    have HV4 := Lib.hid (sQ_v _ _ _ HS4.out)
    go_upto_region 5 with fail
    go_region_with (first | (go_at_call 71; (with_reducible refine (l7Copy_any HD.out (VD.toExt HV4.out (drew_ext _))).mono ?_); rintro e w4 ⟨u0, u1, u2, G, rfl, hx5, hS5, hN5, hF5⟩; obtain ⟨A4, a4, B4, b4, rfl, rfl, rfl⟩ := sQ_form hS5; obtain ⟨l52, k502, k512, k522, f52⟩ := box3 ((HR4.out.drew).toExt hx5); obtain ⟨l53, k503, k513, k523, f53⟩ := box3 ((HT4.out.drew).toExt hx5); obtain ⟨l54, k504, k514, k524, f54⟩ := box3 ((HB4.out.drew).toExt hx5); have S1 := Lib.hid (OD.toExt (OD.toExt HS4.out (drew_ext _)) hx5); have S2 := Lib.hid hS5; have HDP := HD; have HG := Lib.hid (show ∀ b ∈ G, w.heap.size + 1 < b from fun b hb => by have h := hF5 b hb; rw [show w3.drew.heap.size = w3.heap.size from rfl] at h; omega); have HX4 := Lib.hid (trans_ext (trans_ext xW (Hc4.out.toExt (drew_ext _)).2.1) hx5); clear hS5 hN5 hF5 hx5))
    all_goals
      go_wp2
      refine bodyPost_ret (v := .tuple #[.agg #[.int .i64 q.1, .slice A2 q.2.1.length a2, .slice B2 q.2.2.length b2], .agg #[.int .i64 q.1, .slice A4 q.2.1.length a4, .slice B4 q.2.2.length b4]]) (by simp [results, Try.results27, go_sem, *]) rfl ?_
      show TwoQP w _ _
      have hC9 := ((((((Chg.refl [w.heap.size, w.heap.size + 1] w4).setCell (p := ⟨w.heap.size, 0, none⟩) (.inl (by simp)) (.int .i64 q.1)).setCell (p := ⟨w.heap.size, 1, none⟩) (.inl (by simp)) (.slice A2 q.2.1.length a2)).setCell (p := ⟨w.heap.size, 2, none⟩) (.inl (by simp)) (.slice B2 q.2.2.length b2)).setCell (p := ⟨w.heap.size + 1, 0, none⟩) (.inl (by simp)) (.int .i64 q.1)).setCell (p := ⟨w.heap.size + 1, 1, none⟩) (.inl (by simp)) (.slice A4 q.2.1.length a4)).setCell (p := ⟨w.heap.size + 1, 2, none⟩) (.inl (by simp)) (.slice B4 q.2.2.length b4)
      exact ⟨_, _, _, _, _, _, _, _, q, q, rfl, sQ_v _ _ _ (OD.chg S1.out hC9 (fun b hb h => by have := HF.out b hb; simp at h; omega)), sQ_v _ _ _ (OD.chg S2.out hC9 (fun b hb h => by have := HG.out b hb; simp at h; omega)), HD.out, HDP.out, hC9.isExt HX4.out (by simp)⟩
end Go.Proofs.Ytbjpkfgkmilkdaa
