/- Contracts of functions that the statement reaches. -/
import Derived.Test.YtbjpkfgkmilkdaaG09
import Derived.Test.YtbjpkfgkmilkdaaG10
import Derived.Test.YtbjpkfgkmilkdaaG05
namespace Go.Proofs.Ytbjpkfgkmilkdaa
open Go.RowKit
theorem lit_second {α : Type} {te : Nat} {E : SE α} {u : Value} {d : α} {w : World} {cs : Array Value} {t : TypeId} (hE : ∀ w, E w [u] d []) : SV te 1 E ((w.alloc (.cells cs t)).alloc (.cells #[u] te)) (.slice (some ⟨w.heap.size + 1, 0, none⟩) 1 1) [d] [w.heap.size + 1] := by
  have h := SV.lit (te := te) (u := u) (d := d) (w.alloc (.cells cs t)) hE
  rw [World.size_alloc] at h
  exact h
structure QaD (q : Qd) : Prop where
  lo : 0 ≤ q.1
  hi : q.1 ≤ 6
  n1 : 1 ≤ q.2.1.length
  n : q.2.1.length ≤ 5
  a : ∀ x ∈ q.2.1, x.1.size ≤ 4 ∧ x.2.length ≤ 5
  o : q.2.2.length ≤ 6
  f : FewV q
theorem cAt_sum : ∀ {l : List At}, (∀ x ∈ l, x.1.size ≤ 4 ∧ x.2.length ≤ 5) → (l.map cAt).sum ≤ 9 * l.length
  | [], _ => by simp
  | x :: l, h => by
    have h1 := cAt_sum (l := l) fun y hy => h y (by simp [hy])
    have h2 := h x (by simp)
    rw [List.map_cons, List.sum_cons, List.length_cons]
    unfold cAt at h1 ⊢
    omega
theorem QaD.b {q : Qd} (h : QaD q) : BQ q := ⟨⟨by have := h.lo; omega, by have := h.hi; omega⟩, ⟨by have := h.n; omega, by have := cAt_sum h.a; have := h.n; omega⟩, by have := h.o; omega⟩
theorem QrD.q {q : Qd} (h : QrD q) : QaD q := by
  obtain ⟨h1, h2, h3⟩ := vqB_facts h.v
  exact ⟨by have := h.i; omega, by have := h.i; omega, h.n.1, by omega, h3, by omega, fun _ => h.f⟩
def QaP (w0 : World) (g : Nat) (w : World) (e : Ending) (w' : World) : Prop := ∃ v0 v1 v2 F q, e = .returned (.agg #[v0, v1, v2]) ∧ sQ w' [v0, v1, v2] q F ∧ F.Nodup ∧ (∀ b ∈ F, w.heap.size ≤ b) ∧ QaD q ∧ Cur w0 w' g ∧ Chg [g] w w'
set_option maxRecDepth 100000 in
set_option maxHeartbeats 80000000 in
theorem l7Any_any {g : Nat} {w0 w : World} (hc : Cur w0 w g) : Calls Try.prog 59 #[.pointer (some ⟨g, 0, none⟩)] w (QaP w0 g w) := by
  have hgw := hc.lt
  have hw0w := size_of_ext hc.2.1
  have Hc0 := Lib.hid hc
  clear hc
  go_enter Try.func59, Try.ntmps59
  go_upto_region 1 with fail
  refine wp_name ?_
  intro W hW
  have xW : ∃ y, W = ext w y := by rw [hW.out]; exact (by refine x'z ?_; repeat (with_reducible (first | exact x'a _ _ | exact x'b _ | exact x'c (by assumption) | refine x'd ?_ (by assumption) | refine x'e ?_ _ | refine x'f ?_ _ | refine x'g ?_ | refine x'h ?_ ?_ _ | refine x'i ?_ _ | refine x'j ?_ | refine x'k ?_ _ | refine x'l ?_ _ _ | refine x'm ?_ | assumption | (refine x'n ?_; omega) | omega)))
  have BW0 : BoxAt W (w.heap.size) #[.int .i64 0, .slice none 0 0, .slice none 0 0] := by rw [hW.out]; refine ⟨?_, fun j => ?_, fun j => ?_⟩ <;> go_simp
  obtain ⟨lW0, bW0, fW0⟩ := BW0
  have cW0_0 : W.cell? ⟨w.heap.size, 0, none⟩ = some (.int .i64 0) := bW0 0
  have cW0_1 : W.cell? ⟨w.heap.size, 1, none⟩ = some (.slice none 0 0) := bW0 1
  have cW0_2 : W.cell? ⟨w.heap.size, 2, none⟩ = some (.slice none 0 0) := bW0 2
  clear hW
  have HR := Lib.hid (show BoxAt W w.heap.size #[.int .i64 0, .slice none 0 0, .slice none 0 0] from ⟨lW0, bW0, fW0⟩)
  clear bW0 fW0 cW0_0 cW0_1 cW0_2
  have hzW := size_of_ext xW
  go_wp2_with fail
  refine (l7Query_any (Hc0.out.toExt xW)).mono ?_
  rintro e w2 ⟨u0, u1, u2, F2, q, rfl, hS2, hN2, hF2, hQ2, hc2, hC2⟩
  obtain ⟨A2, a2, B2, b2, rfl, rfl, rfl⟩ := sQ_form hS2
  obtain ⟨FA, FO, rfl, _, ⟨_, eA2, hA2⟩, hO2⟩ := sQ_get hS2
  injection eA2 with eA2
  subst eA2
  have hFl := SMono.lt hS2
  have HN := Lib.hid hN2
  have HF2 := Lib.hid hF2
  have HQ := Lib.hid hQ2
  have HC2 := Lib.hid ((Chg.ofExt (F := [g]) xW).trans hC2 (fun x hx => .inl hx))
  have HR2 := Lib.hid (HR.out.chg hC2 (by simp; omega))
  have hz2 := hC2.size
  have hn1 := hQ2.n.1
  have hq1 := hQ2.i.1
  have hq5 := hQ2.i.2
  obtain ⟨hn4, ho5, hAB⟩ := vqB_facts hQ2.v
  have HAB := Lib.hid hAB
  have Hc2 := Lib.hid hc2
  clear hS2 hN2 hF2 hQ2 hC2 hAB hc2
  go_upto_region 2 with fail
  refine wp_name ?_
  intro W3 hW3
  have x3 : ∃ y, W3 = ext w2 y := by rw [hW3.out]; exact (by refine x'z ?_; repeat (with_reducible (first | exact x'a _ _ | exact x'b _ | exact x'c (by assumption) | refine x'd ?_ (by assumption) | refine x'e ?_ _ | refine x'f ?_ _ | refine x'g ?_ | refine x'h ?_ ?_ _ | refine x'i ?_ _ | refine x'j ?_ | refine x'k ?_ _ | refine x'l ?_ _ _ | refine x'm ?_ | assumption | (refine x'n ?_; omega) | omega)))
  have B3 : BoxAt W3 w2.heap.size #[.int .i64 q.1, .slice A2 q.2.1.length a2, .slice B2 q.2.2.length b2] := by rw [hW3.out]; exact (by repeat (with_reducible (first | assumption | exact BoxAt.new _ _ _ | apply BoxAt.set3 | refine BoxAt.set3' ?_ (by omega) | apply BoxAt.set30 | apply BoxAt.set31 | apply BoxAt.set32 | apply BoxAt.set2 | refine BoxAt.set2' ?_ (by omega) | apply BoxAt.setP0 | apply BoxAt.setP1 | refine BoxAt.setO ?_ (by omega) | refine BoxAt.alloc ?_ _ | refine BoxAt.drew ?_ | refine BoxAt.toExt ?_ (by assumption))))
  have HR3 := Lib.hid (HR2.out.toExt x3)
  have HC3 := Lib.hid (HC2.out.trans0 x3)
  have Hc3 := Lib.hid (Hc2.out.toExt x3)
  have HA3 := Lib.hid (hA2.toExt x3)
  have HO3 := Lib.hid (hO2.toExt x3)
  have hz3 := size_of_ext x3
  obtain ⟨b3, q3⟩ : ∃ b, w2.heap.size = b := ⟨_, rfl⟩
  have HF := Lib.hid (show ∀ b ∈ FA ++ FO, W.heap.size ≤ b ∧ b < b3 from fun b hb => ⟨by have := HF2.out b hb; omega, by have := hFl b hb; omega⟩)
  rw [q3] at B3 hz2 hz3 ⊢
  have hb3 : b3 < W3.heap.size := B3.1
  have n3g : b3 ≠ g := by omega
  have HB3 := Lib.hid B3
  clear hW3 B3 q3 hFl hA2 hO2 HF2 HR2 HC2 Hc2 x3
  go_wp2_with fail
  refine (l1Below_any Hc3.out (by omega) (by omega)).mono ?_
  rintro e w5 ⟨x, rfl, hx0, hx1, hc5, hC5⟩
  have HFA := Lib.hid (show ∀ b ∈ FA, W.heap.size ≤ b ∧ b < b3 from fun b hb => HF.out b (List.mem_append_left _ hb))
  have HFO := Lib.hid (show ∀ b ∈ FO, W.heap.size ≤ b ∧ b < b3 from fun b hb => HF.out b (List.mem_append_right _ hb))
  have HB5 := Lib.hid (HB3.out.chg hC5 (by simpa using n3g))
  have HR5 := Lib.hid (HR3.out.chg hC5 (by simp; omega))
  have HC5 := Lib.hid (HC3.out.trans hC5 (fun x hx => .inl hx))
  have HA5 := Lib.hid (HA3.out.chg hC5 (fun b hb h => by have := HFA.out b hb; rw [List.mem_singleton.1 h] at this; omega))
  have HO5 := Lib.hid (HO3.out.chg hC5 (fun b hb h => by have := HFO.out b hb; rw [List.mem_singleton.1 h] at this; omega))
  have hz5 := hC5.size
  have Hc5 := Lib.hid hc5
  have hg5 := Hc5.out.lt
  clear hc5 hC5 HB3 HR3 HC3 Hc3 HA3 HO3
  obtain ⟨l5, k50, k51, k52, f5⟩ := box3 HB5.out
  by_cases e0 : x = 0
  · have q0 : (x == 0) = true := by simp [e0]
    have q1 : (x == 1) = false := by simp [e0]
    have q2 : (x == 2) = false := by simp [e0]
    have q3 : (x == 3) = false := by simp [e0]
    have q4 : (x == 4) = false := by simp [e0]
    clear e0
    have ik : IntKind.i64.wrap (q.1 + 1) = q.1 + 1 := by rw [IntKind.wrap_i64]; omega
    go_wp2_with fail
    refine (l1PickInt_any (m := 3) (Hc5.out.toExt (alloc_ext _ _)) (by omega) (by omega) (BoxAt.new _ _ _) (by intro j hj; rcases j with _ | _ | _ | j <;> first | exact ⟨_, rfl⟩ | omega) (by omega)).mono ?_
    rintro e w6 ⟨z, j, rfl, hj, hz, hc6, hC6⟩
    have hzb : z = 0 ∨ z = 6 ∨ z = q.1 + 1 := by
      rcases j with _ | _ | _ | j
      · injection hz with hz; injection hz with _ hz; exact .inl hz.symm
      · injection hz with hz; injection hz with _ hz; exact .inr (.inl hz.symm)
      · injection hz with hz; injection hz with _ hz; exact .inr (.inr hz.symm)
      · omega
    have xa := alloc_ext w5 (.cells #[.int .i64 0, .int .i64 6, .int .i64 (q.1 + 1)] 3)
    have B6 := (HB5.out.toExt xa).chg hC6 (by simpa using n3g)
    have hsC := (Chg.refl [b3] w6).setCell (p := ⟨b3, 0, none⟩) (.inl (by simp)) (.int .i64 z)
    have HB9 := Lib.hid (B6.set30 (u := .int .i64 z))
    have HR9 := Lib.hid (((HR5.out.toExt xa).chg hC6 (by simp; omega)).chg hsC (by simp; omega))
    have HA9 := Lib.hid (((HA5.out.toExt xa).chg hC6 (fun b hb h => by have := HFA.out b hb; rw [List.mem_singleton.1 h] at this; omega)).chg hsC (fun b hb h => by have := HFA.out b hb; rw [List.mem_singleton.1 h] at this; omega))
    have HO9 := Lib.hid (((HO5.out.toExt xa).chg hC6 (fun b hb h => by have := HFO.out b hb; rw [List.mem_singleton.1 h] at this; omega)).chg hsC (fun b hb h => by have := HFO.out b hb; rw [List.mem_singleton.1 h] at this; omega))
    have HC9 := Lib.hid (((HC5.out.trans0 xa).trans hC6 (fun x hx => .inl hx)).trans hsC (fun x hx => .inr (by rw [List.mem_singleton.1 hx]; omega)))
    have Hc9 := Lib.hid (hc6.chg hsC (by simpa using fun h => n3g h.symm) (by simp; omega))
    have HF9 := Lib.hid (show ∀ b ∈ FA ++ FO, W.heap.size ≤ b from fun b hb => (HF.out b hb).1)
    have HN9 := HN
    have HD9 : Hid (QaD (z, q.2.1, q.2.2)) := Lib.hid ⟨by dsimp only; omega, by dsimp only; omega, by dsimp only; omega, by dsimp only; omega, HAB.out, by dsimp only; omega, few_count HQ.out.v hzb⟩
    obtain ⟨l6, k60, k61, k62, f6⟩ := box3 B6
    clear hz hzb hsC hC6 hc6 xa B6
    go_upto_region 13 with fail
    refine wp_name ?_
    intro WX hWX
    rw [← hWX.out] at HB9 HR9 HA9 HO9 HC9 Hc9
    clear hWX l5 k50 k51 k52 f5 l6 k60 k61 k62 f6
    obtain ⟨lf1, kf10, kf11, kf12, ff1⟩ := box3 HB9.out
    obtain ⟨lf2, kf20, kf21, kf22, ff2⟩ := box3 HR9.out
    go_wp2_with fail
    refine bodyPost_ret (v := .agg #[.int .i64 z, .slice A2 q.2.1.length a2, .slice B2 q.2.2.length b2]) (by simp [results, Try.results59, go_sem, *]) rfl ?_
    show QaP w0 g w _ _
    have hC9 := ((((Chg.refl [w.heap.size] WX).setCell (p := ⟨w.heap.size, 0, none⟩) (.inl (by simp)) (.int .i64 z)).setCell (p := ⟨w.heap.size, 1, none⟩) (.inl (by simp)) (.slice A2 q.2.1.length a2)).setCell (p := ⟨w.heap.size, 2, none⟩) (.inl (by simp)) (.slice B2 q.2.2.length b2))
    exact ⟨_, _, _, (FA ++ FO), (z, q.2.1, q.2.2), rfl, OD.chg (sQ_mk HA9.out HO9.out) hC9 (fun b hb h => by have := HF9.out b hb; rw [List.mem_singleton.1 h] at this; omega), HN9.out, fun b hb => by have := HF9.out b hb; omega, HD9.out, Hc9.out.chg hC9 (by simp; omega) (by simp; omega), HC9.out.trans hC9 (fun x hx => .inr (by rw [List.mem_singleton.1 hx]; omega))⟩
  · have q0 : (x == 0) = false := by simp [e0]
    by_cases e1 : x = 1
    · have q1 : (x == 1) = true := by simp [e1]
      have q2 : (x == 2) = false := by simp [e1]
      have q3 : (x == 3) = false := by simp [e1]
      have q4 : (x == 4) = false := by simp [e1]
      clear e0 e1
      have nAg : Hid (∀ b ∈ FA, b ∉ [g]) := Lib.hid (fun b hb h => by have := HFA.out b hb; rw [List.mem_singleton.1 h] at this; omega)
      have n3A : Hid (b3 ∉ FA) := Lib.hid (fun h => by have := HFA.out b3 h; omega)
      have hNA := Lib.hid (List.nodup_append.1 HN.out).1
      go_upto_region 6 with fail
      go_region_law (first
        | (refine step_appB (E := sAt) (d := (s, [(0 : Int)])) (G := [w5.heap.size]) (cs := #[.string s, .slice (some ⟨w5.heap.size, 0, none⟩) 1 1]) (by rfl) _ _ _ (by rfl) tA (by rfl) (by rfl) (by (repeat (with_reducible (first | assumption | exact BoxAt.new _ _ _ | apply BoxAt.set2 | refine BoxAt.set2' ?_ (by omega) | apply BoxAt.setP0 | apply BoxAt.setP1 | refine BoxAt.setO ?_ (by omega) | refine BoxAt.alloc ?_ _ | refine BoxAt.drew ?_ | refine BoxAt.toExt ?_ (by assumption)))); done) (sAt_mk (HI.out.toExt (by refine x'z ?_; repeat (with_reducible (first | exact x'a _ _ | exact x'b _ | exact x'c (by assumption) | refine x'd ?_ (by assumption) | refine x'e ?_ _ | refine x'f ?_ _ | refine x'g ?_ | refine x'h ?_ ?_ _ | refine x'i ?_ _ | refine x'j ?_ | refine x'k ?_ _ | refine x'l ?_ _ _ | refine x'm ?_ | assumption | (refine x'n ?_; omega) | omega))))) (by rfl) (by simp [Value.oneCell']) (HA6.out.toExt (by refine x'z ?_; repeat (with_reducible (first | exact x'a _ _ | exact x'b _ | exact x'c (by assumption) | refine x'd ?_ (by assumption) | refine x'e ?_ _ | refine x'f ?_ _ | refine x'g ?_ | refine x'h ?_ ?_ _ | refine x'i ?_ _ | refine x'j ?_ | refine x'k ?_ _ | refine x'l ?_ _ _ | refine x'm ?_ | assumption | (refine x'n ?_; omega) | omega)))) (nodup_more hNA.out (by simp) HA5.out.lt (by simp)) (by omega) (by omega) ?_; intro v7 w7 F7 hS7 hC7 hN7 hF7; obtain ⟨A7, c7, rfl, _, _⟩ := hS7.form; have B7 := (HB6.out.toExt (by refine x'z ?_; repeat (with_reducible (first | exact x'a _ _ | exact x'b _ | exact x'c (by assumption) | refine x'd ?_ (by assumption) | refine x'e ?_ _ | refine x'f ?_ _ | refine x'g ?_ | refine x'h ?_ ?_ _ | refine x'i ?_ _ | refine x'j ?_ | refine x'k ?_ _ | refine x'l ?_ _ _ | refine x'm ?_ | assumption | (refine x'n ?_; omega) | omega)))).chg hC7 n3A.out; obtain ⟨l7, k70, k71, k72, f7⟩ := box3 B7)
        | (refine step_appB (E := sAt) (d := (s, [(0 : Int)])) (G := [w5.heap.size + 1]) (cs := #[.string s, .slice (some ⟨w5.heap.size + 1, 0, none⟩) 1 1]) (by rfl) _ _ _ (by rfl) tA (by rfl) (by rfl) (by (repeat (with_reducible (first | assumption | exact BoxAt.new _ _ _ | apply BoxAt.set2 | refine BoxAt.set2' ?_ (by omega) | apply BoxAt.setP0 | apply BoxAt.setP1 | refine BoxAt.setO ?_ (by omega) | refine BoxAt.alloc ?_ _ | refine BoxAt.drew ?_ | refine BoxAt.toExt ?_ (by assumption)))); done) (sAt_mk (HI.out.toExt (by refine x'z ?_; repeat (with_reducible (first | exact x'a _ _ | exact x'b _ | exact x'c (by assumption) | refine x'd ?_ (by assumption) | refine x'e ?_ _ | refine x'f ?_ _ | refine x'g ?_ | refine x'h ?_ ?_ _ | refine x'i ?_ _ | refine x'j ?_ | refine x'k ?_ _ | refine x'l ?_ _ _ | refine x'm ?_ | assumption | (refine x'n ?_; omega) | omega))))) (by rfl) (by simp [Value.oneCell']) (HA6.out.toExt (by refine x'z ?_; repeat (with_reducible (first | exact x'a _ _ | exact x'b _ | exact x'c (by assumption) | refine x'd ?_ (by assumption) | refine x'e ?_ _ | refine x'f ?_ _ | refine x'g ?_ | refine x'h ?_ ?_ _ | refine x'i ?_ _ | refine x'j ?_ | refine x'k ?_ _ | refine x'l ?_ _ _ | refine x'm ?_ | assumption | (refine x'n ?_; omega) | omega)))) (nodup_more hNA.out (by simp) HA5.out.lt (by simp)) (by omega) (by omega) ?_; intro v7 w7 F7 hS7 hC7 hN7 hF7; obtain ⟨A7, c7, rfl, _, _⟩ := hS7.form; have B7 := (HB6.out.toExt (by refine x'z ?_; repeat (with_reducible (first | exact x'a _ _ | exact x'b _ | exact x'c (by assumption) | refine x'd ?_ (by assumption) | refine x'e ?_ _ | refine x'f ?_ _ | refine x'g ?_ | refine x'h ?_ ?_ _ | refine x'i ?_ _ | refine x'j ?_ | refine x'k ?_ _ | refine x'l ?_ _ _ | refine x'm ?_ | assumption | (refine x'n ?_; omega) | omega)))).chg hC7 n3A.out; obtain ⟨l7, k70, k71, k72, f7⟩ := box3 B7)
        | (refine step_appB (E := sAt) (d := (s, [(0 : Int)])) (G := [w6.heap.size]) (cs := #[.string s, .slice (some ⟨w6.heap.size, 0, none⟩) 1 1]) (by rfl) _ _ _ (by rfl) tA (by rfl) (by rfl) (by exact box_second) (sAt_mk ((SV.lit (te := 3) (E := sI) (u := .int .i64 0) (d := (0 : Int)) w6 (fun _ => ⟨rfl, rfl⟩)).toExt (by refine x'z ?_; repeat (with_reducible (first | exact x'a _ _ | exact x'b _ | exact x'c (by assumption) | refine x'd ?_ (by assumption) | refine x'e ?_ _ | refine x'f ?_ _ | refine x'g ?_ | refine x'h ?_ ?_ _ | refine x'i ?_ _ | refine x'j ?_ | refine x'k ?_ _ | refine x'l ?_ _ _ | refine x'm ?_ | assumption | (refine x'n ?_; omega) | omega))))) (by rfl) (by simp [Value.oneCell']) (HA6.out.toExt (by refine x'z ?_; repeat (with_reducible (first | exact x'a _ _ | exact x'b _ | exact x'c (by assumption) | refine x'd ?_ (by assumption) | refine x'e ?_ _ | refine x'f ?_ _ | refine x'g ?_ | refine x'h ?_ ?_ _ | refine x'i ?_ _ | refine x'j ?_ | refine x'k ?_ _ | refine x'l ?_ _ _ | refine x'm ?_ | assumption | (refine x'n ?_; omega) | omega)))) HNc.out (by omega) (by omega) ?_; intro v7 w7 F7 hS7 hC7 hN7 hF7; obtain ⟨A7, c7, rfl, _, _⟩ := hS7.form; have B7 := (HB6.out.toExt (by refine x'z ?_; repeat (with_reducible (first | exact x'a _ _ | exact x'b _ | exact x'c (by assumption) | refine x'd ?_ (by assumption) | refine x'e ?_ _ | refine x'f ?_ _ | refine x'g ?_ | refine x'h ?_ ?_ _ | refine x'i ?_ _ | refine x'j ?_ | refine x'k ?_ _ | refine x'l ?_ _ _ | refine x'm ?_ | assumption | (refine x'n ?_; omega) | omega)))).chg hC7 n3A.out; obtain ⟨l7, k70, k71, k72, f7⟩ := box3 B7)
        | (rw [if_pos (by simp [Region.wanted])]; go_wp2_with (go_at_call 67; refine (l1Pick_any (m := 3) (cs := #[.string ⟨#[]⟩, .string ⟨#[119]⟩, .string ⟨#[114]⟩]) (Hc5.out.toExt (by refine x'z ?_; repeat (with_reducible (first | exact x'a _ _ | exact x'b _ | exact x'c (by assumption) | refine x'd ?_ (by assumption) | refine x'e ?_ _ | refine x'f ?_ _ | refine x'g ?_ | refine x'h ?_ ?_ _ | refine x'i ?_ _ | refine x'j ?_ | refine x'k ?_ _ | refine x'l ?_ _ _ | refine x'm ?_ | assumption | (refine x'n ?_; omega) | omega)))) (by omega) (by omega) (by first | exact BoxAt.new _ _ _ | exact (BoxAt.new _ _ _).drew | exact box_second | exact (BoxAt.new _ _ _).alloc _) (by intro j hj; rcases j with _ | _ | _ | j <;> first | exact ⟨_, rfl⟩ | omega) (by simp; omega)).mono ?_; rintro e w6 ⟨s, j, rfl, hj, hz, hc6, hC6⟩; (first | (have HI := Lib.hid (((SV.lit (te := 3) (E := sI) (u := .int .i64 0) (d := (0 : Int)) w5 (fun _ => ⟨rfl, rfl⟩)).toExt (trans_ext (alloc_ext _ _) (drew_ext _))).chg hC6 (by simp; omega))) | (have HI := Lib.hid (((lit_second (te := 3) (E := sI) (u := .int .i64 0) (d := (0 : Int)) (w := w5) (cs := #[.string ⟨#[]⟩, .string ⟨#[119]⟩, .string ⟨#[114]⟩]) (t := 9) (fun _ => ⟨rfl, rfl⟩)).toExt (drew_ext _)).chg hC6 (by simp; omega))) | skip); have HA6 := Lib.hid ((HA5.out.toExt (by refine x'z ?_; repeat (with_reducible (first | exact x'a _ _ | exact x'b _ | exact x'c (by assumption) | refine x'd ?_ (by assumption) | refine x'e ?_ _ | refine x'f ?_ _ | refine x'g ?_ | refine x'h ?_ ?_ _ | refine x'i ?_ _ | refine x'j ?_ | refine x'k ?_ _ | refine x'l ?_ _ _ | refine x'm ?_ | assumption | (refine x'n ?_; omega) | omega)))).chg hC6 nAg.out); have HNc := Lib.hid (show (FA ++ [w6.heap.size]).Nodup from nodup_more hNA.out (by simp) HA6.out.lt (by simp)); have HO6 := Lib.hid ((HO5.out.toExt (by refine x'z ?_; repeat (with_reducible (first | exact x'a _ _ | exact x'b _ | exact x'c (by assumption) | refine x'd ?_ (by assumption) | refine x'e ?_ _ | refine x'f ?_ _ | refine x'g ?_ | refine x'h ?_ ?_ _ | refine x'i ?_ _ | refine x'j ?_ | refine x'k ?_ _ | refine x'l ?_ _ _ | refine x'm ?_ | assumption | (refine x'n ?_; omega) | omega)))).chg hC6 (fun b hb h => by have := HFO.out b hb; rw [List.mem_singleton.1 h] at this; omega)); have HB6 := Lib.hid ((HB5.out.toExt (by refine x'z ?_; repeat (with_reducible (first | exact x'a _ _ | exact x'b _ | exact x'c (by assumption) | refine x'd ?_ (by assumption) | refine x'e ?_ _ | refine x'f ?_ _ | refine x'g ?_ | refine x'h ?_ ?_ _ | refine x'i ?_ _ | refine x'j ?_ | refine x'k ?_ _ | refine x'l ?_ _ _ | refine x'm ?_ | assumption | (refine x'n ?_; omega) | omega)))).chg hC6 (by simpa using n3g)); have HR6 := Lib.hid ((HR5.out.toExt (by refine x'z ?_; repeat (with_reducible (first | exact x'a _ _ | exact x'b _ | exact x'c (by assumption) | refine x'd ?_ (by assumption) | refine x'e ?_ _ | refine x'f ?_ _ | refine x'g ?_ | refine x'h ?_ ?_ _ | refine x'i ?_ _ | refine x'j ?_ | refine x'k ?_ _ | refine x'l ?_ _ _ | refine x'm ?_ | assumption | (refine x'n ?_; omega) | omega)))).chg hC6 (by simp; omega)); have HC6 := Lib.hid (show Chg [g] w w6 from (HC5.out.trans0 (by refine x'z ?_; repeat (with_reducible (first | exact x'a _ _ | exact x'b _ | exact x'c (by assumption) | refine x'd ?_ (by assumption) | refine x'e ?_ _ | refine x'f ?_ _ | refine x'g ?_ | refine x'h ?_ ?_ _ | refine x'i ?_ _ | refine x'j ?_ | refine x'k ?_ _ | refine x'l ?_ _ _ | refine x'm ?_ | assumption | (refine x'n ?_; omega) | omega)))).trans hC6 (fun x hx => .inl hx)); have Hc6 := Lib.hid hc6; have hz6 := hC6.size; have HZ6 := Lib.hid hz; obtain ⟨l6, k60, k61, k62, f6⟩ := box3 HB6.out; clear hc6 hC6 hz)))
      all_goals
        have hss : s.size ≤ 4 := by
          have h := HZ6.out
          rcases j with _ | _ | _ | j
          · injection h with h; injection h with h; rw [← h]; decide
          · injection h with h; injection h with h; rw [← h]; decide
          · injection h with h; injection h with h; rw [← h]; decide
          · omega
        have hl7 : (q.2.1 ++ [(s, [(0 : Int)])]).length = q.2.1.length + 1 := by simp
        (try rw [hl7] at hS7)
        have hz60 : w5.heap.size ≤ w6.heap.size := by first | exact hz6 | (simp at hz6; exact hz6) | (simp at hz6; omega)
        have hF7n : ∀ b ∈ F7, W.heap.size ≤ b ∧ (b ∈ FA ∨ w5.heap.size ≤ b) := fun b hb => by
          rcases hF7 b hb with h | h | h
          · exact ⟨(HFA.out b h).1, .inl h⟩
          · rw [List.mem_singleton.1 h]; exact ⟨by omega, .inr (by omega)⟩
          · simp at h; exact ⟨by omega, .inr (by omega)⟩
        have hsC := (Chg.refl [b3] w7).setCell (p := ⟨b3, 1, none⟩) (.inl (by simp)) (.slice A7 (q.2.1.length + 1) c7)
        have h3F7 : b3 ∉ F7 := fun h => by
          rcases (hF7n b3 h).2 with h | h
          · exact n3A.out h
          · omega
        have HB9 := Lib.hid (B7.set31 (u := .slice A7 (q.2.1.length + 1) c7))
        have HR9 := Lib.hid (((HR6.out.toExt (by refine x'z ?_; repeat (with_reducible (first | exact x'a _ _ | exact x'b _ | exact x'c (by assumption) | refine x'd ?_ (by assumption) | refine x'e ?_ _ | refine x'f ?_ _ | refine x'g ?_ | refine x'h ?_ ?_ _ | refine x'i ?_ _ | refine x'j ?_ | refine x'k ?_ _ | refine x'l ?_ _ _ | refine x'm ?_ | assumption | (refine x'n ?_; omega) | omega)))).chg hC7 (fun h => by have := HFA.out _ h; omega)).chg hsC (by simp; omega))
        have HA9 := Lib.hid (hS7.chg hsC (fun b hb h => by rw [List.mem_singleton.1 h] at hb; exact h3F7 hb))
        have HO9 := Lib.hid (((HO6.out.toExt (by refine x'z ?_; repeat (with_reducible (first | exact x'a _ _ | exact x'b _ | exact x'c (by assumption) | refine x'd ?_ (by assumption) | refine x'e ?_ _ | refine x'f ?_ _ | refine x'g ?_ | refine x'h ?_ ?_ _ | refine x'i ?_ _ | refine x'j ?_ | refine x'k ?_ _ | refine x'l ?_ _ _ | refine x'm ?_ | assumption | (refine x'n ?_; omega) | omega)))).chg hC7 (fun b hb h => (List.nodup_append.1 HN.out).2.2 b h b hb rfl)).chg hsC (fun b hb h => by have := HFO.out b hb; rw [List.mem_singleton.1 h] at this; omega))
        have HC9 := Lib.hid (((HC6.out.trans0 (by refine x'z ?_; repeat (with_reducible (first | exact x'a _ _ | exact x'b _ | exact x'c (by assumption) | refine x'd ?_ (by assumption) | refine x'e ?_ _ | refine x'f ?_ _ | refine x'g ?_ | refine x'h ?_ ?_ _ | refine x'i ?_ _ | refine x'j ?_ | refine x'k ?_ _ | refine x'l ?_ _ _ | refine x'm ?_ | assumption | (refine x'n ?_; omega) | omega)))).trans hC7 (fun x hx => .inr (by have := HFA.out x hx; omega))).trans hsC (fun x hx => .inr (by rw [List.mem_singleton.1 hx]; omega)))
        have Hc9 := Lib.hid (((Hc6.out.toExt (by refine x'z ?_; repeat (with_reducible (first | exact x'a _ _ | exact x'b _ | exact x'c (by assumption) | refine x'd ?_ (by assumption) | refine x'e ?_ _ | refine x'f ?_ _ | refine x'g ?_ | refine x'h ?_ ?_ _ | refine x'i ?_ _ | refine x'j ?_ | refine x'k ?_ _ | refine x'l ?_ _ _ | refine x'm ?_ | assumption | (refine x'n ?_; omega) | omega)))).chg hC7 (fun h => nAg.out g h (by simp)) (fun b hb => by have := HFA.out b hb; omega)).chg hsC (by simpa using fun h => n3g h.symm) (by simp; omega))
        have HF9 := Lib.hid (show ∀ b ∈ F7 ++ FO, W.heap.size ≤ b from fun b hb => by
          rcases List.mem_append.1 hb with h | h
          · exact (hF7n b h).1
          · exact (HFO.out b h).1)
        have HN9 : Hid (F7 ++ FO).Nodup := Lib.hid (List.nodup_append.2 ⟨hN7, (List.nodup_append.1 HN.out).2.1, fun a ha b hb e => by
          subst e
          rcases (hF7n a ha).2 with h | h
          · exact (List.nodup_append.1 HN.out).2.2 a h a hb rfl
          · have := HFO.out a hb; omega⟩)
        have HD9 : Hid (QaD (q.1, q.2.1 ++ [(s, [(0 : Int)])], q.2.2)) := Lib.hid ⟨by dsimp only; omega, by dsimp only; omega, by dsimp only; rw [hl7]; omega, by dsimp only; rw [hl7]; omega, fun y hy => by
          rcases List.mem_append.1 hy with h | h
          · exact HAB.out y h
          · rw [List.mem_singleton.1 h]; exact ⟨hss, by simp⟩, by dsimp only; omega, fun _ => few_more (ats := q.2.1) HQ.out.f _⟩
        clear hF7n hsC h3F7 hS7 hC7 hN7 hF7 B7
        go_upto_region 13 with fail
        refine wp_name ?_
        intro WX hWX
        rw [← hWX.out] at HB9 HR9 HA9 HO9 HC9 Hc9
        clear hWX l5 k50 k51 k52 f5 l6 k60 k61 k62 f6 l7 k70 k71 k72 f7
        obtain ⟨lf1, kf10, kf11, kf12, ff1⟩ := box3 HB9.out
        obtain ⟨lf2, kf20, kf21, kf22, ff2⟩ := box3 HR9.out
        go_wp2_with fail
        refine bodyPost_ret (v := .agg #[.int .i64 q.1, .slice A7 (q.2.1.length + 1) c7, .slice B2 q.2.2.length b2]) (by simp [results, Try.results59, go_sem, *]) rfl ?_
        show QaP w0 g w _ _
        have hC9 := ((((Chg.refl [w.heap.size] WX).setCell (p := ⟨w.heap.size, 0, none⟩) (.inl (by simp)) (.int .i64 q.1)).setCell (p := ⟨w.heap.size, 1, none⟩) (.inl (by simp)) (.slice A7 (q.2.1.length + 1) c7)).setCell (p := ⟨w.heap.size, 2, none⟩) (.inl (by simp)) (.slice B2 q.2.2.length b2))
        exact ⟨_, _, _, (F7 ++ FO), (q.1, q.2.1 ++ [(s, [(0 : Int)])], q.2.2), rfl, OD.chg (sQ_mk HA9.out HO9.out) hC9 (fun b hb h => by have := HF9.out b hb; rw [List.mem_singleton.1 h] at this; omega), HN9.out, fun b hb => by have := HF9.out b hb; omega, HD9.out, Hc9.out.chg hC9 (by simp; omega) (by simp; omega), HC9.out.trans hC9 (fun x hx => .inr (by rw [List.mem_singleton.1 hx]; omega))⟩
    · have q1 : (x == 1) = false := by simp [e1]
      by_cases e2 : x = 2
      · have q2 : (x == 2) = true := by simp [e2]
        have q3 : (x == 3) = false := by simp [e2]
        have q4 : (x == 4) = false := by simp [e2]
        clear e0 e1 e2
        have nOg : Hid (∀ b ∈ FO, b ∉ [g]) := Lib.hid (fun b hb h => by have := HFO.out b hb; rw [List.mem_singleton.1 h] at this; omega)
        have n3O : Hid (b3 ∉ FO) := Lib.hid (fun h => by have := HFO.out b3 h; omega)
        go_upto_region 8 with fail
        go_region_law (first
          | (refine step_app1 (E := sI) (d := y - 1) (by rfl) _ _ _ (by rfl) tI (by rfl) (by rfl) (by rfl) (by rfl) (fun _ => ⟨rfl, rfl⟩) (by rfl) (by simp [Value.oneCell']) HO6.out (by omega) (by omega) ?_; intro v7 w7 F7 hS7 hC7 hF7; obtain ⟨A7, c7, rfl, _, _⟩ := hS7.form; have B7 := HB6.out.chg hC7 n3O.out; obtain ⟨l7, k70, k71, k72, f7⟩ := box3 B7)
          | (rw [if_pos (by simp [Region.wanted])]; go_wp2_with (go_at_call 55; refine (l1Below_any (Hc5.out.toExt (by refine x'z ?_; repeat (with_reducible (first | exact x'a _ _ | exact x'b _ | exact x'c (by assumption) | refine x'd ?_ (by assumption) | refine x'e ?_ _ | refine x'f ?_ _ | refine x'g ?_ | refine x'h ?_ ?_ _ | refine x'i ?_ _ | refine x'j ?_ | refine x'k ?_ _ | refine x'l ?_ _ _ | refine x'm ?_ | assumption | (refine x'n ?_; omega) | omega)))) (by omega) (by omega)).mono ?_; rintro e w6 ⟨y, rfl, hya, hyb, hc6, hC6⟩; have iy : IntKind.i64.wrap (y - 1) = y - 1 := (by rw [IntKind.wrap_i64]; omega); have HO6 := Lib.hid ((HO5.out.toExt (by refine x'z ?_; repeat (with_reducible (first | exact x'a _ _ | exact x'b _ | exact x'c (by assumption) | refine x'd ?_ (by assumption) | refine x'e ?_ _ | refine x'f ?_ _ | refine x'g ?_ | refine x'h ?_ ?_ _ | refine x'i ?_ _ | refine x'j ?_ | refine x'k ?_ _ | refine x'l ?_ _ _ | refine x'm ?_ | assumption | (refine x'n ?_; omega) | omega)))).chg hC6 nOg.out); have HA6 := Lib.hid ((HA5.out.toExt (by refine x'z ?_; repeat (with_reducible (first | exact x'a _ _ | exact x'b _ | exact x'c (by assumption) | refine x'd ?_ (by assumption) | refine x'e ?_ _ | refine x'f ?_ _ | refine x'g ?_ | refine x'h ?_ ?_ _ | refine x'i ?_ _ | refine x'j ?_ | refine x'k ?_ _ | refine x'l ?_ _ _ | refine x'm ?_ | assumption | (refine x'n ?_; omega) | omega)))).chg hC6 (fun b hb h => by have := HFA.out b hb; rw [List.mem_singleton.1 h] at this; omega)); have HB6 := Lib.hid ((HB5.out.toExt (by refine x'z ?_; repeat (with_reducible (first | exact x'a _ _ | exact x'b _ | exact x'c (by assumption) | refine x'd ?_ (by assumption) | refine x'e ?_ _ | refine x'f ?_ _ | refine x'g ?_ | refine x'h ?_ ?_ _ | refine x'i ?_ _ | refine x'j ?_ | refine x'k ?_ _ | refine x'l ?_ _ _ | refine x'm ?_ | assumption | (refine x'n ?_; omega) | omega)))).chg hC6 (by simpa using n3g)); have HR6 := Lib.hid ((HR5.out.toExt (by refine x'z ?_; repeat (with_reducible (first | exact x'a _ _ | exact x'b _ | exact x'c (by assumption) | refine x'd ?_ (by assumption) | refine x'e ?_ _ | refine x'f ?_ _ | refine x'g ?_ | refine x'h ?_ ?_ _ | refine x'i ?_ _ | refine x'j ?_ | refine x'k ?_ _ | refine x'l ?_ _ _ | refine x'm ?_ | assumption | (refine x'n ?_; omega) | omega)))).chg hC6 (by simp; omega)); have HC6 := Lib.hid (show Chg [g] w w6 from (HC5.out.trans0 (by refine x'z ?_; repeat (with_reducible (first | exact x'a _ _ | exact x'b _ | exact x'c (by assumption) | refine x'd ?_ (by assumption) | refine x'e ?_ _ | refine x'f ?_ _ | refine x'g ?_ | refine x'h ?_ ?_ _ | refine x'i ?_ _ | refine x'j ?_ | refine x'k ?_ _ | refine x'l ?_ _ _ | refine x'm ?_ | assumption | (refine x'n ?_; omega) | omega)))).trans hC6 (fun x hx => .inl hx)); have Hc6 := Lib.hid hc6; have hz6 := hC6.size; obtain ⟨l6, k60, k61, k62, f6⟩ := box3 HB6.out; clear hc6 hC6)))
        all_goals
          have hl7 : (q.2.2 ++ [y - 1]).length = q.2.2.length + 1 := by simp
          (try rw [hl7] at hS7)
          have hz60 : w5.heap.size ≤ w6.heap.size := hz6
          have hF7n : ∀ b ∈ F7, W.heap.size ≤ b ∧ (b ∈ FO ∨ w6.heap.size ≤ b) := fun b hb => by
            rcases hF7 b hb with h | h
            · exact ⟨(HFO.out b h).1, .inl h⟩
            · exact ⟨by omega, .inr h⟩
          have hsC := (Chg.refl [b3] w7).setCell (p := ⟨b3, 2, none⟩) (.inl (by simp)) (.slice A7 (q.2.2.length + 1) c7)
          have h3F7 : b3 ∉ F7 := fun h => by
            rcases (hF7n b3 h).2 with h | h
            · exact n3O.out h
            · omega
          have HB9 := Lib.hid (B7.set32 (u := .slice A7 (q.2.2.length + 1) c7))
          have HR9 := Lib.hid ((HR6.out.chg hC7 (fun h => by have := HFO.out _ h; omega)).chg hsC (by simp; omega))
          have HO9 := Lib.hid (hS7.chg hsC (fun b hb h => by rw [List.mem_singleton.1 h] at hb; exact h3F7 hb))
          have HA9 := Lib.hid ((HA6.out.chg hC7 (fun b hb h => (List.nodup_append.1 HN.out).2.2 b hb b h rfl)).chg hsC (fun b hb h => by have := HFA.out b hb; rw [List.mem_singleton.1 h] at this; omega))
          have HC9 := Lib.hid ((HC6.out.trans hC7 (fun x hx => .inr (by have := HFO.out x hx; omega))).trans hsC (fun x hx => .inr (by rw [List.mem_singleton.1 hx]; omega)))
          have Hc9 := Lib.hid ((Hc6.out.chg hC7 (fun h => nOg.out g h (by simp)) (fun b hb => by have := HFO.out b hb; omega)).chg hsC (by simpa using fun h => n3g h.symm) (by simp; omega))
          have HF9 := Lib.hid (show ∀ b ∈ FA ++ F7, W.heap.size ≤ b from fun b hb => by
            rcases List.mem_append.1 hb with h | h
            · exact (HFA.out b h).1
            · exact (hF7n b h).1)
          have HN9 : Hid (FA ++ F7).Nodup := Lib.hid (List.nodup_append.2 ⟨(List.nodup_append.1 HN.out).1, hS7.nodup, fun a ha b hb e => by
            subst e
            rcases (hF7n a hb).2 with h | h
            · exact (List.nodup_append.1 HN.out).2.2 a ha a h rfl
            · have := HFA.out a ha; omega⟩)
          have HD9 : Hid (QaD (q.1, q.2.1, q.2.2 ++ [y - 1])) := Lib.hid ⟨by dsimp only; omega, by dsimp only; omega, by dsimp only; omega, by dsimp only; omega, HAB.out, by dsimp only; rw [hl7]; omega, fun _ => few_out (out := q.2.2) HQ.out.f _⟩
          clear hF7n hsC h3F7 hS7 hC7 hF7 B7
          go_upto_region 13 with fail
          refine wp_name ?_
          intro WX hWX
          rw [← hWX.out] at HB9 HR9 HA9 HO9 HC9 Hc9
          clear hWX l5 k50 k51 k52 f5 l6 k60 k61 k62 f6 l7 k70 k71 k72 f7
          obtain ⟨lf1, kf10, kf11, kf12, ff1⟩ := box3 HB9.out
          obtain ⟨lf2, kf20, kf21, kf22, ff2⟩ := box3 HR9.out
          go_wp2_with fail
          refine bodyPost_ret (v := .agg #[.int .i64 q.1, .slice A2 q.2.1.length a2, .slice A7 (q.2.2.length + 1) c7]) (by simp [results, Try.results59, go_sem, *]) rfl ?_
          show QaP w0 g w _ _
          have hC9 := ((((Chg.refl [w.heap.size] WX).setCell (p := ⟨w.heap.size, 0, none⟩) (.inl (by simp)) (.int .i64 q.1)).setCell (p := ⟨w.heap.size, 1, none⟩) (.inl (by simp)) (.slice A2 q.2.1.length a2)).setCell (p := ⟨w.heap.size, 2, none⟩) (.inl (by simp)) (.slice A7 (q.2.2.length + 1) c7))
          exact ⟨_, _, _, (FA ++ F7), (q.1, q.2.1, q.2.2 ++ [y - 1]), rfl, OD.chg (sQ_mk HA9.out HO9.out) hC9 (fun b hb h => by have := HF9.out b hb; rw [List.mem_singleton.1 h] at this; omega), HN9.out, fun b hb => by have := HF9.out b hb; omega, HD9.out, Hc9.out.chg hC9 (by simp; omega) (by simp; omega), HC9.out.trans hC9 (fun x hx => .inr (by rw [List.mem_singleton.1 hx]; omega))⟩
      · have q2 : (x == 2) = false := by simp [e2]
        by_cases e3 : x = 3
        · have q3 : (x == 3) = true := by simp [e3]
          have q4 : (x == 4) = false := by simp [e3]
          clear e0 e1 e2 e3
          obtain ⟨gA, capA, eA, hgA, hcapA, _⟩ := HA5.out.block (by intro e; rw [e] at hn1; simp at hn1)
          injection eA with eA _ eA2
          subst eA eA2
          have hgW := HFA.out gA hgA
          obtain ⟨⟨u1, i3⟩, i4, i5⟩ := HA5.out.cell rfl (j := 1) (by omega)
          have n3A : b3 ≠ gA := by omega
          have nAg : gA ≠ g := by omega
          have hsC := (Chg.refl [gA] w5).setCell (p := ⟨gA, 1, none⟩) (.inl (by simp)) (.slice none 0 0)
          have hNA := (List.nodup_append.1 HN.out).1
          obtain ⟨F9, hS9, hN9, hF9⟩ := HA5.out.setG (G := []) (by simpa using hNA) (k := 0) (by omega) ⟨_, _, rfl⟩ (j := 1) (u := .slice none 0 0) (d' := (q.2.1[0].1, [])) (by omega) (fun c Fk hcl hE _ => by
            obtain ⟨A', c', hc'⟩ : ∃ A' c', c = [.string q.2.1[0].1, .slice A' q.2.1[0].2.length c'] := by
              obtain ⟨c0, c1, F0, F1, e0, h0, ⟨h1, h2⟩, ⟨u1, rfl, h4⟩, h5⟩ := hE
              subst h1
              obtain ⟨A', c', rfl, _⟩ := h4.form
              exact ⟨A', c', e0⟩
            subst hc'
            exact sAt_mk SV.nil)
          rw [show 0 * 2 + 1 = 1 by omega] at hS9
          have HB9 := Lib.hid (HB5.out.chg hsC (by simpa using n3A))
          have HR9 := Lib.hid (HR5.out.chg hsC (by simp; omega))
          have HA9 := Lib.hid hS9
          have HO9 := Lib.hid (HO5.out.chg hsC (fun b hb h => by rw [List.mem_singleton.1 h] at hb; exact (List.nodup_append.1 HN.out).2.2 gA hgA gA hb rfl))
          have HC9 := Lib.hid (HC5.out.trans hsC (fun x hx => .inr (by rw [List.mem_singleton.1 hx]; omega)))
          have Hc9 := Lib.hid (Hc5.out.chg hsC (by simpa using fun h => nAg h.symm) (by simp; omega))
          have hF9' : ∀ b ∈ F9, b ∈ FA := fun b hb => by
            rcases hF9 b hb with h | h
            · exact h
            · simp at h
          have HF9 := Lib.hid (show ∀ b ∈ F9 ++ FO, W.heap.size ≤ b from fun b hb => by
            rcases List.mem_append.1 hb with h | h
            · exact (HFA.out b (hF9' b h)).1
            · exact (HFO.out b h).1)
          have HN9 : Hid (F9 ++ FO).Nodup := Lib.hid (List.nodup_append.2 ⟨hN9, (List.nodup_append.1 HN.out).2.1, fun a ha b hb e => (List.nodup_append.1 HN.out).2.2 a (hF9' a ha) b hb e⟩)
          have HD9 : Hid (QaD (q.1, q.2.1.set 0 (q.2.1[0].1, []), q.2.2)) := Lib.hid ⟨by dsimp only; omega, by dsimp only; omega, by dsimp only; rw [List.length_set]; omega, by dsimp only; rw [List.length_set]; omega, fun y hy => by
            rcases List.mem_or_eq_of_mem_set hy with h | h
            · exact HAB.out y h
            · rw [h]; exact ⟨(HAB.out _ (List.getElem_mem (by omega))).1, by simp⟩, by dsimp only; omega, few_nil (by omega) _⟩
          have HLA := Lib.hid (show q.2.1.length = (q.2.1.set 0 (q.2.1[0].1, [])).length by rw [List.length_set])
          clear hS9 hN9 hF9 hF9' hsC hNA
          go_upto_region 13 with fail
          refine wp_name ?_
          intro WX hWX
          rw [← hWX.out] at HB9 HR9 HA9 HO9 HC9 Hc9
          clear hWX l5 k50 k51 k52 f5 i3 i4 i5
          obtain ⟨lf1, kf10, kf11, kf12, ff1⟩ := box3 HB9.out
          obtain ⟨lf2, kf20, kf21, kf22, ff2⟩ := box3 HR9.out
          go_wp2_with fail
          refine bodyPost_ret (v := .agg #[.int .i64 q.1, .slice (some ⟨gA, 0, none⟩) q.2.1.length a2, .slice B2 q.2.2.length b2]) (by simp [results, Try.results59, go_sem, *]) rfl ?_
          show QaP w0 g w _ _
          have hC9 := ((((Chg.refl [w.heap.size] WX).setCell (p := ⟨w.heap.size, 0, none⟩) (.inl (by simp)) (.int .i64 q.1)).setCell (p := ⟨w.heap.size, 1, none⟩) (.inl (by simp)) (.slice (some ⟨gA, 0, none⟩) q.2.1.length a2)).setCell (p := ⟨w.heap.size, 2, none⟩) (.inl (by simp)) (.slice B2 q.2.2.length b2))
          exact ⟨_, _, _, (F9 ++ FO), (q.1, q.2.1.set 0 (q.2.1[0].1, []), q.2.2), rfl, OD.chg (sQ_mk HA9.out HO9.out) hC9 (fun b hb h => by have := HF9.out b hb; rw [List.mem_singleton.1 h] at this; omega), HN9.out, fun b hb => by have := HF9.out b hb; omega, HD9.out, Hc9.out.chg hC9 (by simp; omega) (by simp; omega), HC9.out.trans hC9 (fun x hx => .inr (by rw [List.mem_singleton.1 hx]; omega))⟩
        · have q3 : (x == 3) = false := by simp [e3]
          by_cases e4 : x = 4
          · have q4 : (x == 4) = true := by simp [e4]
            clear e0 e1 e2 e3 e4
            have hNA := Lib.hid (List.nodup_append.1 HN.out).1
            have hvl : 1 ≤ (q.2.1[0]).2.length := ((atomB_in (vq_atom (n := q.1) (ats := q.2.1) (out := q.2.2) HQ.out.v _ (List.getElem_mem (by omega)))).1).1
            obtain ⟨gA, capA, c, Fk, eA, hgAl, hgA, _, hFk, _, _, hcells, _, hE, _, _⟩ := HA5.out.at hNA.out (k := 0) (by omega)
            injection eA with eA _ eA2
            subst eA eA2
            obtain ⟨c0, c1, F0, F1, e0, h0, ⟨h1, h2⟩, ⟨u1, rfl, h4⟩, h5⟩ := hE
            subst h1 h2 e0
            have hF1 : ∀ b ∈ F1, b ∈ FA := fun b hb => hFk b (by rw [h5]; simpa using hb)
            obtain ⟨g1, cap1, rfl, hg1, _, _⟩ := h4.block (by intro e; rw [e] at hvl; simp at hvl)
            have i1 := hcells 1 (by simp)
            simp only [Nat.zero_mul, Nat.zero_add, List.cons_append, List.nil_append, List.getElem_cons_succ, List.getElem_cons_zero] at i1
            have hgAW := HFA.out gA hgA
            have hg1W := HFA.out g1 (hF1 g1 hg1)
            have nAg : gA ≠ g := by omega
            have n1g : g1 ≠ g := by omega
            have n3A : b3 ≠ gA := by omega
            have n31 : b3 ≠ g1 := by omega
            have HI := Lib.hid h4
            have HF1 := Lib.hid hF1
            obtain ⟨vs, hvs⟩ : ∃ l, (q.2.1[0]).2 = l := ⟨_, rfl⟩
            have HVS := Lib.hid hvs
            rw [hvs] at hvl HI i1
            clear hcells h4 hF1 h5 hFk hvs
            have i0 : (0 : Int) < (q.2.1.length : Int) := by omega
            have i00 : 0 < q.2.1.length := by omega
            have j0 : (0 : Int) < (vs.length : Int) := by omega
            have j00 : 0 < vs.length := by omega
            go_upto_region 12 with fail
            go_region_law (first
              | (rw [if_pos (by simp [Region.wanted])]; go_wp2_with (go_at_call 100; refine (l1PickInt_any (m := 2) (cs := #[.int .i64 (-1), .int .i64 5]) (Hc5.out.toExt (by refine x'z ?_; repeat (with_reducible (first | exact x'a _ _ | exact x'b _ | exact x'c (by assumption) | refine x'd ?_ (by assumption) | refine x'e ?_ _ | refine x'f ?_ _ | refine x'g ?_ | refine x'h ?_ ?_ _ | refine x'i ?_ _ | refine x'j ?_ | refine x'k ?_ _ | refine x'l ?_ _ _ | refine x'm ?_ | assumption | (refine x'n ?_; omega) | omega)))) (by omega) (by omega) (by first | exact BoxAt.new _ _ _ | exact (BoxAt.new _ _ _).drew) (by intro j hj; rcases j with _ | _ | j <;> first | exact ⟨_, rfl⟩ | omega) (by simp; omega)).mono ?_; rintro e w6 ⟨z, j, rfl, hj, hz, hc6, hC6⟩; have HA6 := Lib.hid ((HA5.out.toExt (by refine x'z ?_; repeat (with_reducible (first | exact x'a _ _ | exact x'b _ | exact x'c (by assumption) | refine x'd ?_ (by assumption) | refine x'e ?_ _ | refine x'f ?_ _ | refine x'g ?_ | refine x'h ?_ ?_ _ | refine x'i ?_ _ | refine x'j ?_ | refine x'k ?_ _ | refine x'l ?_ _ _ | refine x'm ?_ | assumption | (refine x'n ?_; omega) | omega)))).chg hC6 (fun b hb h => by have := HFA.out b hb; rw [List.mem_singleton.1 h] at this; omega)); have HO6 := Lib.hid ((HO5.out.toExt (by refine x'z ?_; repeat (with_reducible (first | exact x'a _ _ | exact x'b _ | exact x'c (by assumption) | refine x'd ?_ (by assumption) | refine x'e ?_ _ | refine x'f ?_ _ | refine x'g ?_ | refine x'h ?_ ?_ _ | refine x'i ?_ _ | refine x'j ?_ | refine x'k ?_ _ | refine x'l ?_ _ _ | refine x'm ?_ | assumption | (refine x'n ?_; omega) | omega)))).chg hC6 (fun b hb h => by have := HFO.out b hb; rw [List.mem_singleton.1 h] at this; omega)); have hI6 := (HI.out.toExt (by refine x'z ?_; repeat (with_reducible (first | exact x'a _ _ | exact x'b _ | exact x'c (by assumption) | refine x'd ?_ (by assumption) | refine x'e ?_ _ | refine x'f ?_ _ | refine x'g ?_ | refine x'h ?_ ?_ _ | refine x'i ?_ _ | refine x'j ?_ | refine x'k ?_ _ | refine x'l ?_ _ _ | refine x'm ?_ | assumption | (refine x'n ?_; omega) | omega)))).chg hC6 (fun b hb h => by have := HFA.out b (HF1.out b hb); rw [List.mem_singleton.1 h] at this; omega); obtain ⟨⟨u6, i6⟩, i7, i8⟩ := hI6.cell rfl (j := 0) (by omega); have HB6 := Lib.hid ((HB5.out.toExt (by refine x'z ?_; repeat (with_reducible (first | exact x'a _ _ | exact x'b _ | exact x'c (by assumption) | refine x'd ?_ (by assumption) | refine x'e ?_ _ | refine x'f ?_ _ | refine x'g ?_ | refine x'h ?_ ?_ _ | refine x'i ?_ _ | refine x'j ?_ | refine x'k ?_ _ | refine x'l ?_ _ _ | refine x'm ?_ | assumption | (refine x'n ?_; omega) | omega)))).chg hC6 (by simpa using n3g)); have HR6 := Lib.hid ((HR5.out.toExt (by refine x'z ?_; repeat (with_reducible (first | exact x'a _ _ | exact x'b _ | exact x'c (by assumption) | refine x'd ?_ (by assumption) | refine x'e ?_ _ | refine x'f ?_ _ | refine x'g ?_ | refine x'h ?_ ?_ _ | refine x'i ?_ _ | refine x'j ?_ | refine x'k ?_ _ | refine x'l ?_ _ _ | refine x'm ?_ | assumption | (refine x'n ?_; omega) | omega)))).chg hC6 (by simp; omega)); have HC6 := Lib.hid (show Chg [g] w w6 from (HC5.out.trans0 (by refine x'z ?_; repeat (with_reducible (first | exact x'a _ _ | exact x'b _ | exact x'c (by assumption) | refine x'd ?_ (by assumption) | refine x'e ?_ _ | refine x'f ?_ _ | refine x'g ?_ | refine x'h ?_ ?_ _ | refine x'i ?_ _ | refine x'j ?_ | refine x'k ?_ _ | refine x'l ?_ _ _ | refine x'm ?_ | assumption | (refine x'n ?_; omega) | omega)))).trans hC6 (fun x hx => .inl hx)); have Hc6 := Lib.hid hc6; have hz6 := hC6.size; have HZ6 := Lib.hid hz; have e6 : w6.cell? ⟨gA, 1, none⟩ = some (.slice (some ⟨g1, 0, none⟩) vs.length cap1) := (by rw [hC6.cell (b := gA) (o := 1) (by simpa using nAg) (by simp; omega)]; go_simp); have l66 : gA < w6.heap.size := Nat.lt_of_lt_of_le (by simp; omega) hz6; obtain ⟨l6, k60, k61, k62, f6⟩ := box3 HB6.out; clear hc6 hC6 hz hI6)))
            all_goals
              have hzv : z = -1 ∨ z = 5 := by
                have h := HZ6.out
                rcases j with _ | _ | j
                · injection h with h; injection h with _ h; exact .inl h.symm
                · injection h with h; injection h with _ h; exact .inr h.symm
                · omega
              obtain ⟨gA', capA', c', Fk', eA', _, _, _, hFk', _, _, hcells', _, hE', hupd, _⟩ := HA6.out.at hNA.out (k := 0) (by omega)
              injection eA' with eA' _ eA2'
              injection eA' with eA'
              injection eA' with eA'
              subst eA' eA2'
              obtain ⟨c0', c1', F0', F1', e0', h0', ⟨h1', h2'⟩, ⟨u1', rfl, h4'⟩, h5'⟩ := hE'
              subst h1' h2' e0'
              have i1' := hcells' 1 (by simp)
              simp only [Nat.zero_mul, Nat.zero_add, List.cons_append, List.nil_append, List.getElem_cons_succ, List.getElem_cons_zero] at i1'
              rw [e6] at i1'
              injection i1' with i1'
              subst i1'
              rw [HVS.out] at h4'
              obtain ⟨hI3, hC3⟩ := h4'.set1 rfl (k := 0) (by omega) (u := .int .i64 z) (d := z) (fun _ => ⟨rfl, rfl⟩)
              have hg1F : g1 ∈ F1' := by
                rw [h4'.plainF]; exact mem_fpOf.2 rfl
              have hFk1 : ∀ x ∈ F1', x ∈ Fk' := fun x hx => by rw [h5']; simpa using hx
              have hg1A : g1 ∈ FA := hFk' g1 (hFk1 g1 hg1F)
              have hS9 := hupd _ (q.2.1[0].1, vs.set 0 z) (by
                have h := sAt_mk (s := q.2.1[0].1) hI3
                rw [h5']
                simpa using h) (hC3.mono (fun x hx => .inl (by rw [List.mem_singleton.1 hx]; exact hFk1 _ hg1F)))
              have HB9 := Lib.hid (HB6.out.chg hC3 (by simpa using n31))
              have HR9 := Lib.hid (HR6.out.chg hC3 (by simp; omega))
              have HA9 := Lib.hid hS9
              have HO9 := Lib.hid (HO6.out.chg hC3 (fun b hb h => by rw [List.mem_singleton.1 h] at hb; exact (List.nodup_append.1 HN.out).2.2 g1 hg1A g1 hb rfl))
              have HC9 := Lib.hid (HC6.out.trans hC3 (fun x hx => .inr (by rw [List.mem_singleton.1 hx]; omega)))
              have Hc9 := Lib.hid (Hc6.out.chg hC3 (by simpa using fun h => n1g h.symm) (by simp; omega))
              have HF9 := Lib.hid (show ∀ b ∈ FA ++ FO, W.heap.size ≤ b from fun b hb => (HF.out b hb).1)
              have HN9 := HN
              have hvs5 : vs.length ≤ 5 := by rw [← HVS.out]; exact (HAB.out _ (List.getElem_mem (by omega))).2
              have HD9 : Hid (QaD (q.1, q.2.1.set 0 (q.2.1[0].1, vs.set 0 z), q.2.2)) := Lib.hid ⟨by dsimp only; omega, by dsimp only; omega, by dsimp only; rw [List.length_set]; omega, by dsimp only; rw [List.length_set]; omega, fun y hy => by
                rcases List.mem_or_eq_of_mem_set hy with h | h
                · exact HAB.out y h
                · rw [h]; exact ⟨(HAB.out _ (List.getElem_mem (by omega))).1, by dsimp only; rw [List.length_set]; exact hvs5⟩, by dsimp only; omega, few_val (by omega) (mem_set_me (by omega) z) hzv⟩
              clear h4' hI3 hC3 hS9 hupd hcells' e6 hFk' h5'
              go_upto_region 13 with fail
              refine wp_name ?_
              intro WX hWX
              rw [← hWX.out] at HB9 HR9 HA9 HO9 HC9 Hc9
              clear hWX l5 k50 k51 k52 f5 l6 k60 k61 k62 f6 i6 i7 i8 i1
              obtain ⟨lf1, kf10, kf11, kf12, ff1⟩ := box3 HB9.out
              obtain ⟨lf2, kf20, kf21, kf22, ff2⟩ := box3 HR9.out
              go_wp2_with fail
              refine bodyPost_ret (v := .agg #[.int .i64 q.1, .slice (some ⟨gA, 0, none⟩) q.2.1.length a2, .slice B2 q.2.2.length b2]) (by simp [results, Try.results59, go_sem, *]) rfl ?_
              show QaP w0 g w _ _
              have hC9 := ((((Chg.refl [w.heap.size] WX).setCell (p := ⟨w.heap.size, 0, none⟩) (.inl (by simp)) (.int .i64 q.1)).setCell (p := ⟨w.heap.size, 1, none⟩) (.inl (by simp)) (.slice (some ⟨gA, 0, none⟩) q.2.1.length a2)).setCell (p := ⟨w.heap.size, 2, none⟩) (.inl (by simp)) (.slice B2 q.2.2.length b2))
              exact ⟨_, _, _, (FA ++ FO), (q.1, q.2.1.set 0 (q.2.1[0].1, vs.set 0 z), q.2.2), rfl, OD.chg (sQ_mk HA9.out HO9.out) hC9 (fun b hb h => by have := HF9.out b hb; rw [List.mem_singleton.1 h] at this; omega), HN9.out, fun b hb => by have := HF9.out b hb; omega, HD9.out, Hc9.out.chg hC9 (by simp; omega) (by simp; omega), HC9.out.trans hC9 (fun x hx => .inr (by rw [List.mem_singleton.1 hx]; omega))⟩
          · have q4 : (x == 4) = false := by simp [e4]
            clear e0 e1 e2 e3 e4
            have HB9 := HB5
            have HR9 := HR5
            have HA9 := HA5
            have HO9 := HO5
            have HC9 := HC5
            have Hc9 := Hc5
            have HF9 := Lib.hid (show ∀ b ∈ FA ++ FO, W.heap.size ≤ b from fun b hb => (HF.out b hb).1)
            have HN9 := HN
            have HD9 : Hid (QaD (q.1, q.2.1, q.2.2)) := Lib.hid HQ.out.q
            clear l5 k50 k51 k52 f5
            go_upto_region 13 with fail
            obtain ⟨lf1, kf10, kf11, kf12, ff1⟩ := box3 HB9.out
            obtain ⟨lf2, kf20, kf21, kf22, ff2⟩ := box3 HR9.out
            go_wp2_with fail
            refine bodyPost_ret (v := .agg #[.int .i64 q.1, .slice A2 q.2.1.length a2, .slice B2 q.2.2.length b2]) (by simp [results, Try.results59, go_sem, *]) rfl ?_
            show QaP w0 g w _ _
            have hC9 := ((((Chg.refl [w.heap.size] w5).setCell (p := ⟨w.heap.size, 0, none⟩) (.inl (by simp)) (.int .i64 q.1)).setCell (p := ⟨w.heap.size, 1, none⟩) (.inl (by simp)) (.slice A2 q.2.1.length a2)).setCell (p := ⟨w.heap.size, 2, none⟩) (.inl (by simp)) (.slice B2 q.2.2.length b2))
            exact ⟨_, _, _, (FA ++ FO), (q.1, q.2.1, q.2.2), rfl, OD.chg (sQ_mk HA9.out HO9.out) hC9 (fun b hb h => by have := HF9.out b hb; rw [List.mem_singleton.1 h] at this; omega), HN9.out, fun b hb => by have := HF9.out b hb; omega, HD9.out, Hc9.out.chg hC9 (by simp; omega) (by simp; omega), HC9.out.trans hC9 (fun x hx => .inr (by rw [List.mem_singleton.1 hx]; omega))⟩
end Go.Proofs.Ytbjpkfgkmilkdaa
