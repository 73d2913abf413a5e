/- Contracts of functions that the statement reaches. -/
import Derived.Test.YtgnmpjjlclbieaaRows
import Derived.Test.YtgnmpjjlclbieaaT01
import Derived.Test.YtgnmpjjlclbieaaT02
import Derived.Test.YtgnmpjjlclbieaaT03
import Derived.Deep.DeepCutAuto
namespace Go.Proofs.Ytgnmpjjlclbieaa
theorem tIIr : SlT Try.prog 25 59 1 24 (.slice none 0 0) := ⟨Try.underlying25, by kernel_rfl, rfl, by omega⟩
end Go.Proofs.Ytgnmpjjlclbieaa
namespace Go.Proofs.Ytgnmpjjlclbieaa
open Go.RowKit
set_option maxHeartbeats 1000000 in
theorem copyRows_any {A : Option Addr} {c : Nat} {rows : List (List Int)} {w : World} (hx : rows.length ≤ 1000000000) (hxl : ∀ x ∈ rows, x.length ≤ 1000000000) (h1 : RII w A rows) :
    Calls Try.prog 38 #[.slice A rows.length c] w fun e w' => ∃ v F, e = .returned v ∧ (∃ y, w' = ext w y) ∧ SV 59 1 (sSl 3 1 sI) w' v rows F ∧ F.Nodup ∧ ∀ b ∈ F, w.heap.size ≤ b := by
  have Hxl := Lib.hid hxl
  clear hxl
  go_enter Try.func38, Try.ntmps38
  go_wp2
  go_loopw [3, 8] (fun v i wr => ∃ (k : Nat) (F : List Nat), i = .int .i64 k ∧ k ≤ rows.length ∧ SV 59 1 (sSl 3 1 sI) wr v (rows.take k) F ∧ Hid F.Nodup ∧ (∀ b ∈ F, w.heap.size ≤ b) ∧ (∃ y, wr = ext w y)) (fun _ i _ => rows.length - (intOf i).toNat)
  case atStart => exact ⟨0, [], rfl, by omega, SV.nil, Lib.hid (by simp), by simp, refl_ext w⟩
  case round =>
    obtain ⟨k, F, rfl, hk, hS, HN, hF, hw⟩ := hrel
    have HF := Lib.hid hF
    clear hF
    by_cases hlt : k < rows.length
    · obtain ⟨b, o, A1, c1, rfl, hb, hc, hv⟩ := (h1.toExt hw).atV hlt
      have lx := Hxl.out rows[k] (List.getElem_mem hlt)
      have Ht := Lib.hid (show rows.take (k + 1) = rows.take k ++ [rows[k]] from List.take_succ_eq_append_getElem hlt)
      have hlk : (rows.take k).length + 1 ≤ 2000000000 := by simp; omega
      have hSlt := Lib.hid hS.lt
      obtain ⟨x, hx1⟩ : ∃ x, rows[k] = x := ⟨_, rfl⟩
      rw [hx1] at hc hv lx Ht
      clear hx1
      go_wp2_with (first
        | (go_at_call 49; refine (copyInts_v lx hv).mono ?_; rintro e w1 ⟨v1, F1, rfl, hx1, hS1, hF1⟩; obtain ⟨A2, c2, rfl, _, _⟩ := hS1.form; have hN2 := nodup_more HN.out hS1.nodup hSlt.out hF1; have hz1 := size_of_ext hx1)
        | (at_builtin; refine wpList_appN (E := sSl 3 1 sI) (d := x) (G := F1) rfl _ _ _ rfl tIIr rfl rfl rfl (by simp) ⟨_, rfl, hS1⟩ rfl (by simp [Value.oneCell']) (hS.toExt hx1) hN2 hlk (by omega) ?_; intro v' w' F' hS' hC' hN' hF'))
      refine ⟨⟨k + 1, F', by go_num, by omega, by rw [Ht.out]; exact hS', Lib.hid hN', fun b hb => ?_, hC'.isExt (trans_ext hw hx1) HF.out⟩, by simp [intOf]; omega⟩
      have hzw := size_of_ext hw
      rcases hF' b hb with h | h | h
      · exact HF.out b h
      · have := hF1 b h; omega
      · omega
    · rw [List.take_of_length_le (by omega)] at hS
      go_wp2
      go_ret
      exact ⟨_, F, rfl, hw, hS, HN.out, HF.out⟩
set_option maxHeartbeats 1000000 in
theorem copyRelation_any {z : Int} {A : Option Addr} {c : Nat} {rows : List (List Int)} {w : World} (hx : rows.length ≤ 1000000000) (hxl : ∀ x ∈ rows, x.length ≤ 1000000000) (h1 : RII w A rows) :
    Calls Try.prog 23 #[.agg #[.int .i64 z, .slice A rows.length c]] w fun e w' => ∃ v0 v1 F, e = .returned (.agg #[v0, v1]) ∧ (∃ y, w' = ext w y) ∧ sRel w' [v0, v1] (z, rows) F ∧ F.Nodup ∧ ∀ b ∈ F, w.heap.size ≤ b := by
  have Hxl := Lib.hid hxl
  clear hxl
  go_enter Try.func23, Try.ntmps23
  go_upto_region 1 with fail
  refine wp_name ?_
  intro w0 hw0
  have hx0 : ∃ y, w0 = ext w y := by rw [hw0.out]; exact (by refine x'z ?_; repeat (with_reducible (first | exact x'a _ _ | exact x'b _ | exact x'c (by assumption) | refine x'd ?_ (by assumption) | refine x'e ?_ _ | refine x'f ?_ _ | refine x'g ?_ | refine x'h ?_ ?_ _ | refine x'i ?_ _ | refine x'j ?_ | refine x'k ?_ _ | refine x'l ?_ _ _ | refine x'm ?_ | assumption | (refine x'n ?_; omega) | omega)))
  have P0 : BoxAt w0 w.heap.size #[.int .i64 z, .slice A rows.length c] := by rw [hw0.out]; exact (by repeat (with_reducible (first | assumption | exact BoxAt.new _ _ _ | apply BoxAt.set2 | refine BoxAt.set2' ?_ (by omega) | apply BoxAt.setP0 | apply BoxAt.setP1 | refine BoxAt.setO ?_ (by omega) | refine BoxAt.alloc ?_ _ | refine BoxAt.drew ?_ | refine BoxAt.toExt ?_ (by assumption))))
  have R0 : BoxAt w0 (w.heap.size + 1) #[.int .i64 0, .slice none 0 0] := by
    rw [hw0.out]
    simpa using BoxAt.new (w.alloc (.cells #[.int .i64 z, .slice A rows.length c] 36)) #[.int .i64 0, .slice none 0 0] 36
  obtain ⟨l0, k0, k0', f0⟩ := bx2 P0
  obtain ⟨m0, n0, n0', g0⟩ := bx2 R0
  have hz0 := size_of_ext hx0
  clear hw0
  go_region_held3 (fun w' => w'.cell? ⟨w.heap.size, 0, none⟩ = some (.int .i64 z) ∧ w'.cell? ⟨w.heap.size, 1, none⟩ = some (.slice A rows.length c)) (first | go_keep | exact ⟨k1, k1'⟩) ((go_at_call 38; refine (copyRows_any hx Hxl.out (h1.toExt (by refine x'z ?_; repeat (with_reducible (first | exact x'a _ _ | exact x'b _ | exact x'c (by assumption) | refine x'd ?_ (by assumption) | refine x'e ?_ _ | refine x'f ?_ _ | refine x'g ?_ | refine x'h ?_ ?_ _ | refine x'i ?_ _ | refine x'j ?_ | refine x'k ?_ _ | refine x'l ?_ _ _ | refine x'm ?_ | assumption | (refine x'n ?_; omega) | omega))))).mono ?_; rintro e w1 ⟨v1, F1, rfl, hx1, hS1, hN1, hF1⟩; obtain ⟨A1, c1, rfl, _, _⟩ := hS1.form; obtain ⟨l1, k1, k1', f1⟩ := bx2 (P0.drew.toExt hx1); obtain ⟨m1, n1, n1', g1⟩ := bx2 (R0.drew.toExt hx1)))
  go_wp2_with fail
  have hz1 := size_of_ext hx1
  refine bodyPost_ret (v := .agg #[.int .i64 z, .slice A1 rows.length c1]) (by simp [results, Try.results23, go_sem, *]) rfl ⟨_, _, F1, rfl, (by refine x'z ?_; repeat (with_reducible (first | exact x'a _ _ | exact x'b _ | exact x'c (by assumption) | refine x'd ?_ (by assumption) | refine x'e ?_ _ | refine x'f ?_ _ | refine x'g ?_ | refine x'h ?_ ?_ _ | refine x'i ?_ _ | refine x'j ?_ | refine x'k ?_ _ | refine x'l ?_ _ _ | refine x'm ?_ | assumption | (refine x'n ?_; omega) | omega))), sRel_mk (OD.chg (E := sII) (G := [w.heap.size + 1]) ⟨_, rfl, hS1⟩ (by repeat (with_reducible (first | exact Chg.refl _ _ | refine Chg.trans0 ?_ (by assumption) | refine Chg.extS ?_ _ | refine Chg.alloc ?_ _ | refine Chg.drew ?_ | refine Chg.setCell ?_ (.inl (by simp)) _))) ?_), hN1, ?_⟩
  · intro b hb h
    have := hF1 b hb
    simp at h this
    omega
  · intro b hb
    have := hF1 b hb
    simp at this
    omega
end Go.Proofs.Ytgnmpjjlclbieaa
namespace Go.Proofs.Ytgnmpjjlclbieaa
open Go.RowKit
theorem RV.from {α : Type} {size : Nat} {E : VE α} {w : World} {A A' : Option Addr} {ds : List α} (h : RV size E w A ds) {q : Nat} (hA : ∀ b o, A = some ⟨b, o, none⟩ → q < ds.length → A' = some ⟨b, o + q * size, none⟩) : RV size E w A' (ds.drop q) := by
  by_cases hq : q ≤ ds.length
  · have := h.cut (lo := q) (hi := ds.length) hq (Nat.le_refl _) (A' := A') hA
    rwa [List.take_of_length_le (Nat.le_refl _)] at this
  · rw [List.drop_eq_nil_of_le (by omega)]
    exact RV.nil
theorem SV.place {α : Type} {te size : Nat} {E : SE α} {w : World} {A : Option Addr} {n c : Nat} {ds : List α} {F : List Nat} (h : SV te size E w (.slice A n c) ds F) : A = none ∧ c = 0 ∨ ∃ g, A = some ⟨g, 0, none⟩ := by
  obtain ⟨vs, F2, h1, _, _⟩ := h
  rcases h1.2 with ⟨h2, _⟩ | ⟨g, cap, cur, h2, _⟩
  · injection h2 with e1 e2 e3
    exact .inl ⟨e1, e3⟩
  · injection h2 with e1 e2 e3
    exact .inr ⟨g, e1⟩
end Go.Proofs.Ytgnmpjjlclbieaa
namespace Go.Proofs.Ytgnmpjjlclbieaa
open Go.RowKit
section
variable {P : Program} {w : World}
end
abbrev sRow : SE (List Int) := sSl 3 1 sI
def Part (W : World) : Option Addr → List (List Int) → List Nat → Prop
  | _, [], G => G = []
  | A, x :: xs, G => ∃ b o v G1 G2, A = some ⟨b, o, none⟩ ∧ b < W.heap.size ∧ W.cell? ⟨b, o, none⟩ = some v ∧ sRow W [v] x G1 ∧ Part W (some ⟨b, o + 1, none⟩) xs G2 ∧ G = G1 ++ G2
theorem part_elems {W : World} {b : Nat} (hb : b < W.heap.size) : ∀ {vs : List Value} {ds : List (List Int)} {G : List Nat} {o : Nat}, elems 1 sRow W vs ds G → (∀ j u, vs[j]? = some u → W.cell? ⟨b, o + j, none⟩ = some u) → Part W (some ⟨b, o, none⟩) ds G
  | _, [], _, _, ⟨_, h⟩, _ => h
  | _, d :: ds, _, o, ⟨c, vs', F1, F2, h1, h2, h3, h4, h5⟩, hc => by
    obtain ⟨v, rfl⟩ : ∃ v, c = [v] := by
      match c, h2 with
      | [v], _ => exact ⟨v, rfl⟩
    subst h1
    refine ⟨b, o, v, F1, F2, rfl, hb, by simpa using hc 0 v (by simp), h3, part_elems hb h4 (fun j u hu => ?_), h5⟩
    rw [Nat.add_assoc, Nat.add_comm 1 j]
    exact hc (j + 1) u (by simpa using hu)
theorem SV.part {W : World} {A : Option Addr} {n c : Nat} {ds : List (List Int)} {F : List Nat} (h : SV 59 1 sRow W (.slice A n c) ds F) : ∃ G, Part W A ds G ∧ F = fpOf (.slice A n c) ++ G := by
  obtain ⟨vs, G, h1, h2, h3⟩ := h
  refine ⟨G, ?_, h3⟩
  rcases h1.2 with ⟨h5, hn⟩ | ⟨g, cap, cur, h5, _, hg, _⟩
  · obtain rfl := List.eq_nil_of_length_eq_zero hn
    exact h2.2
  · injection h5 with e1 e2 e3
    subst e1 e2 e3
    have hlt := (h1.lt g rfl).2
    refine part_elems hlt h2 fun j u hu => ?_
    rw [Nat.zero_add, h1.cellAt j (by have := elems_length h2; have := (List.getElem?_eq_some_iff.1 hu).1; omega)]
    exact hu
theorem Part.lt {W : World} : ∀ {A : Option Addr} {ds : List (List Int)} {G : List Nat}, Part W A ds G → ∀ b ∈ G, b < W.heap.size
  | _, [], _, h, b, hb => by rw [h] at hb; simp at hb
  | _, x :: xs, _, ⟨b', o, v, G1, G2, _, _, _, h3, h4, h5⟩, b, hb => by
    subst h5
    rcases List.mem_append.1 hb with h | h
    · exact SMono.lt h3 b h
    · exact Part.lt h4 b h
theorem Part.head {W wr : World} {A : Option Addr} {x : List Int} {xs : List (List Int)} {G : List Nat} (h : Part W A (x :: xs) G) (hy : ∃ y, wr = ext W y) : ∃ b o A1 c1 G1 G2, A = some ⟨b, o, none⟩ ∧ b < wr.heap.size ∧ wr.cell? ⟨b, o, none⟩ = some (.slice A1 x.length c1) ∧ SV 3 1 sI wr (.slice A1 x.length c1) x G1 ∧ RI wr A1 x ∧ x.length ≤ c1 ∧ Part W (some ⟨b, o + 1, none⟩) xs G2 ∧ G = G1 ++ G2 ∧ (xs = [] → Part W A xs G2) := by
  obtain ⟨b, o, v, G1, G2, h1, h2, h3, ⟨v', e, h4⟩, h5, h6⟩ := h
  injection e with e
  subst e
  obtain ⟨A1, c1, rfl, hc, _, hv⟩ := h4.view sI_v
  obtain ⟨y, rfl⟩ := hy
  refine ⟨b, o, A1, c1, G1, G2, h1, lt_ext h2, by rw [cell_ext h2]; exact h3, h4.ext, hv.ext, hc, h5, h6, fun e => by subst e; exact h5⟩
end Go.Proofs.Ytgnmpjjlclbieaa
