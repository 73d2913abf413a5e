/- Contracts of functions that the statement reaches. -/
import Derived.Deep.RegionLaw
import Derived.Deep.DrawnRows
import Derived.Deep.DeepCutAuto
import Derived.Test.YtgnmpjjlclbieaaT05
import Derived.Test.YtgnmpjjlclbieaaT02
namespace Go.Proofs.Ytgnmpjjlclbieaa
open Go.RowKit
set_option maxRecDepth 100000 in
set_option maxHeartbeats 16000000 in
theorem l5Copy_any {z : Int} {A : Option Addr} {c : Nat} {rows : List (List Int)} {w : World} (hx : rows.length ≤ 1000000000) (hxl : ∀ x ∈ rows, x.length ≤ 1000000000) (h1 : RII w A rows) :
    Calls Try.prog 33 #[.agg #[.int .i64 z, .slice A rows.length c]] w fun e w' => ∃ v0 v1 F, e = .returned (.agg #[v0, v1]) ∧ (∃ y, w' = ext w y) ∧ sRel w' [v0, v1] (z, rows) F ∧ F.Nodup ∧ ∀ b ∈ F, w.heap.size ≤ b := by
  have Hxl := Lib.hid hxl
  clear hxl
  go_enter Try.func33, Try.ntmps33
  go_upto_region 1 with fail
  refine wp_name ?_
  intro w0 hw0
  have hx0 : ∃ y, w0 = ext w y := by rw [hw0.out]; exact (by refine x'z ?_; repeat (with_reducible (first | exact x'a _ _ | exact x'b _ | exact x'c (by assumption) | refine x'd ?_ (by assumption) | refine x'e ?_ _ | refine x'f ?_ _ | refine x'g ?_ | refine x'h ?_ ?_ _ | refine x'i ?_ _ | refine x'j ?_ | refine x'k ?_ _ | refine x'l ?_ _ _ | refine x'm ?_ | assumption | (refine x'n ?_; omega) | omega)))
  have P0 : BoxAt w0 w.heap.size #[.int .i64 z, .slice A rows.length c] := by rw [hw0.out]; exact (by repeat (with_reducible (first | assumption | exact BoxAt.new _ _ _ | apply BoxAt.set2 | refine BoxAt.set2' ?_ (by omega) | apply BoxAt.setP0 | apply BoxAt.setP1 | refine BoxAt.setO ?_ (by omega) | refine BoxAt.alloc ?_ _ | refine BoxAt.drew ?_ | refine BoxAt.toExt ?_ (by assumption))))
  have R0 : BoxAt w0 (w.heap.size + 1) #[.int .i64 0, .slice none 0 0] := by
    rw [hw0.out]
    simpa using BoxAt.new (w.alloc (.cells #[.int .i64 z, .slice A rows.length c] 36)) #[.int .i64 0, .slice none 0 0] 36
  obtain ⟨l0, k0, k0', f0⟩ := bx2 P0
  obtain ⟨m0, n0, n0', g0⟩ := bx2 R0
  clear hw0
  go_upto_region 2 with fail
  refine wp_name ?_
  intro W hW
  have xW : ∃ y, W = ext w0 y := by rw [hW.out]; exact (by refine x'z ?_; repeat (with_reducible (first | exact x'a _ _ | exact x'b _ | exact x'c (by assumption) | refine x'd ?_ (by assumption) | refine x'e ?_ _ | refine x'f ?_ _ | refine x'g ?_ | refine x'h ?_ ?_ _ | refine x'i ?_ _ | refine x'j ?_ | refine x'k ?_ _ | refine x'l ?_ _ _ | refine x'm ?_ | assumption | (refine x'n ?_; omega) | omega)))
  have X0 : BoxAt W w0.heap.size #[.int .i64 z, .slice none 0 0] := by rw [hW.out]; exact (by repeat (with_reducible (first | assumption | exact BoxAt.new _ _ _ | apply BoxAt.set2 | refine BoxAt.set2' ?_ (by omega) | apply BoxAt.setP0 | apply BoxAt.setP1 | refine BoxAt.setO ?_ (by omega) | refine BoxAt.alloc ?_ _ | refine BoxAt.drew ?_ | refine BoxAt.toExt ?_ (by assumption))))
  have P1 := P0.toExt xW
  have R1 := R0.toExt xW
  have hxw := trans_ext hx0 xW
  have h1' := h1.toExt hxw
  have hpx : w.heap.size ≠ w0.heap.size := by omega
  have hrx : w.heap.size + 1 ≠ w0.heap.size := by omega
  have hw0s : w.heap.size < w0.heap.size := l0
  obtain ⟨bX, qX⟩ : ∃ b, w0.heap.size = b := ⟨_, rfl⟩
  rw [qX] at X0 hpx hrx hw0s ⊢
  have hXw : bX < W.heap.size := X0.1
  have hsz := Lib.hid (size_of_ext hxw)
  clear hW qX P0 R0 l0 k0 k0' f0 m0 n0 n0' g0
  go_wp2
  go_loopw [4] (fun i wr => ∃ (k : Nat) (A' : Option Addr) (c' : Nat) (F : List Nat), i = .int .i64 k ∧ k ≤ rows.length ∧ BoxAt wr bX #[.int .i64 z, .slice A' k c'] ∧ SV 59 1 (sSl 3 1 sI) wr (.slice A' k c') (rows.take k) F ∧ F.Nodup ∧ (∀ b ∈ F, W.heap.size ≤ b) ∧ Chg [bX] W wr) (fun i _ => rows.length - (intOf i).toNat)
  case atStart => exact ⟨0, none, 0, [], rfl, by omega, X0, SV.nil, by simp, by simp, Chg.refl _ _⟩
  case round =>
    obtain ⟨k, A', c', F, rfl, hk, hB, hS, hN, hF, hC⟩ := hrel
    have hw : ∃ y, wr = ext w y := hC.isExt hxw (by simpa using Nat.le_of_lt hw0s)
    obtain ⟨lp, p0, p0', fp⟩ := bx2 (P1.chg hC (by simpa using hpx))
    obtain ⟨lx0, q0, q0', fx⟩ := bx2 hB
    have HN := Lib.hid hN
    have HF := Lib.hid hF
    have HC := Lib.hid hC
    have HB := Lib.hid hB
    by_cases hlt : k < rows.length
    · obtain ⟨b, o, A1, c1, rfl, hb, hc, hv⟩ := (h1.toExt hw).atV hlt
      have lx := Hxl.out rows[k] (List.getElem_mem hlt)
      have Ht := Lib.hid (show rows.take (k + 1) = rows.take k ++ [rows[k]] from List.take_succ_eq_append_getElem hlt)
      have hlk : (rows.take k).length + 1 ≤ 2000000000 := by simp; omega
      have HL := Lib.hid (show (rows.take k).length = k by simp; omega)
      have hSlt := Lib.hid hS.lt
      have HS := Lib.hid hS
      have hsC := hC.size
      have HP := Lib.hid (P1.chg hC (by simpa using hpx))
      have HV := Lib.hid hv
      obtain ⟨x, hx1⟩ : ∃ x, rows[k] = x := ⟨_, rfl⟩
      rw [hx1] at hc lx Ht HV
      have hbX : bX < wr.heap.size := hB.1
      have hXF : bX ∉ F := fun h => by have := hF bX h; omega
      clear hx1 hv hN hF hC hB hS
      go_upto_region 5 with fail
      go_region_law (first
        | (refine step_appV (E := sI) (V := vI) (es := x) (by rfl) _ _ _ (by rfl) tI (by rfl) ((SV.empty wr).toExt (drew_ext _)) (by rfl) (by rfl) (HV.out.toExt (by refine x'z ?_; repeat (with_reducible (first | exact x'a _ _ | exact x'b _ | exact x'c (by assumption) | refine x'd ?_ (by assumption) | refine x'e ?_ _ | refine x'f ?_ _ | refine x'g ?_ | refine x'h ?_ ?_ _ | refine x'i ?_ _ | refine x'j ?_ | refine x'k ?_ _ | refine x'l ?_ _ _ | refine x'm ?_ | assumption | (refine x'n ?_; omega) | omega)))) vI_s vI_1 (by simp; omega) (by omega) ?_; intro v6 w6 F6 hS6 hC6 hF6; obtain ⟨A6, c6, rfl, _, _⟩ := hS6.form; have B6 := ((HB.out.alloc (.cells #[] 3)).drew).chg hC6 (by simp; omega); obtain ⟨l6, q6, q6', f6⟩ := bx2 B6; obtain ⟨m6, p6, p6', g6⟩ := bx2 (((HP.out.alloc (.cells #[] 3)).drew).chg hC6 (by simp; omega)))
        | (refine step_appB (E := sSl 3 1 sI) (d := x) (G := F6) (by rfl) _ _ _ (by rfl) tIIr (by rfl) (by rfl) (by exact BoxAt.new _ _ _) ⟨_, rfl, hS6.toExt (alloc_ext _ _)⟩ (by rfl) (by simp [Value.oneCell']) (((HS.out.toExt (trans_ext (alloc_ext _ _) (drew_ext _))).chg hC6 (fun b hb h => by have := hSlt.out b hb; simp at h; omega)).toExt (alloc_ext _ _)) (nodup_more HN.out hS6.nodup hSlt.out (fun b hb => by rcases hF6 b hb with h | h <;> simp at h <;> omega)) (by rw [HL.out]; omega) (by omega) ?_; intro v7 w7 F7 hS7 hC7 hN7 hF7; obtain ⟨A7, c7, rfl, _, _⟩ := hS7.form; have B7 := (B6.alloc (.cells #[.slice A6 x.length c6] 59)).chg hC7 hXF; obtain ⟨l7, q7, q7', f7⟩ := bx2 B7))
      all_goals
        have hz6 := hC6.size
        simp only [World.size_alloc, World.drew] at hz6
        have hn6 : ∀ b ∈ F6, wr.heap.size ≤ b := fun b hb => by
          rcases hF6 b hb with h | h
          · simp at h; omega
          · simp at h; omega
        have hF7n : ∀ b ∈ F7, W.heap.size ≤ b := fun b hb => by
          rcases hF7 b hb with h | h | h
          · exact HF.out b h
          · have := hn6 b h; omega
          · rw [World.size_alloc] at h; omega
        have hCa := (((((HC.out.alloc (.cells #[] 3)).drew).trans hC6 (fun x hx => .inr (by simp at hx; omega))).alloc (.cells #[.slice A6 x.length c6] 59)).trans hC7 (fun x hx => .inr (HF.out x hx))).setCell (p := ⟨bX, 1, none⟩) (.inl (by simp)) (.slice A7 ((rows.take k) ++ [x]).length c7)
        have hSf := hS7.chg ((Chg.refl [bX] w7).setCell (p := ⟨bX, 1, none⟩) (.inl (by simp)) (.slice A7 ((rows.take k) ++ [x]).length c7)) (fun b hb h => by have := hF7n b hb; rw [List.mem_singleton.1 h] at this; omega)
        have hBf := B7.setP1 (v' := .slice A7 ((rows.take k) ++ [x]).length c7)
        have hl1 : ((rows.take k) ++ [x]).length = k + 1 := by simp; omega
        rw [hl1, ← Ht.out] at hSf
        rw [hl1] at hBf hCa
        have HH := Lib.hid (And.intro hSf (And.intro hBf (And.intro hCa hF7n)))
        have HN7 := Lib.hid hN7
        have HL1 := Lib.hid hl1
        clear hCa hF7n hSf hBf hS7 hC7 hN7 hF7 B7 hS6 hF6 hn6 hl1
        go_wp2
        exact ⟨⟨k + 1, A7, c7, F7, by go_num, by omega, HH.out.2.1, HH.out.1, HN7.out, HH.out.2.2.2, HH.out.2.2.1⟩, by simp [intOf]; omega⟩
    · obtain rfl : k = rows.length := by omega
      rw [List.take_of_length_le (Nat.le_refl _)] at hS
      have R2 := R1.chg hC (by simpa using hrx)
      obtain ⟨m0, n0, n0', g0⟩ := bx2 R2
      have hXw : bX < wr.heap.size := hB.1
      go_wp2
      refine bodyPost_ret (v := .agg #[.int .i64 z, .slice A' rows.length c']) (by simp [results, Try.results33, go_sem, *]) rfl ⟨_, _, F, rfl, (by refine x'z ?_; repeat (with_reducible (first | exact x'a _ _ | exact x'b _ | exact x'c (by assumption) | refine x'd ?_ (by assumption) | refine x'e ?_ _ | refine x'f ?_ _ | refine x'g ?_ | refine x'h ?_ ?_ _ | refine x'i ?_ _ | refine x'j ?_ | refine x'k ?_ _ | refine x'l ?_ _ _ | refine x'm ?_ | assumption | (refine x'n ?_; omega) | omega))), sRel_mk (OD.chg (E := sII) (G := [w.heap.size + 1]) ⟨_, rfl, hS⟩ (by repeat (with_reducible (first | exact Chg.refl _ _ | refine Chg.trans0 ?_ (by assumption) | refine Chg.extS ?_ _ | refine Chg.alloc ?_ _ | refine Chg.drew ?_ | refine Chg.setCell ?_ (.inl (by simp)) _))) ?_), HN.out, ?_⟩
      · intro b hb h
        have := HF.out b hb
        have := hsz.out
        simp at h
        omega
      · intro b hb
        have := HF.out b hb
        have := hsz.out
        omega
end Go.Proofs.Ytgnmpjjlclbieaa
