/- Contracts of functions that the statement reaches. -/
import Derived.Deep.RegionLaw
import Derived.Deep.DeepCutAuto
import Derived.Deep.CutBlock
import Derived.Test.YtbjpkfgkmilkdaaG02
import Derived.Test.YtbjpkfgkmilkdaaG05
import Derived.Test.YtbjpkfgkmilkdaaG07
import Derived.Test.YtbjpkfgkmilkdaaG08
import Derived.Test.YtbjpkfgkmilkdaaG03
namespace Go.Proofs.Ytbjpkfgkmilkdaa
open Go.RowKit
theorem SV.lit {α : Type} {te : Nat} {E : SE α} {u : Value} {d : α} (w : World) (hE : ∀ w, E w [u] d []) : SV te 1 E (w.alloc (.cells #[u] te)) (.slice (some ⟨w.heap.size, 0, none⟩) 1 1) [d] [w.heap.size] :=
  ⟨[u], [], ⟨by simp, .inr ⟨w.heap.size, 1, #[u], rfl, Nat.zero_le _, heap_alloc_new w _, Nat.le_refl _, by simp [maxLen], by simp, by simp⟩⟩, elems_one rfl (hE _), rfl⟩
theorem box_second {w : World} {cs ds : Array Value} {t t' : TypeId} : BoxAt ((w.alloc (.cells cs t)).alloc (.cells ds t')) (w.heap.size + 1) ds := by
  have h := BoxAt.new (w.alloc (.cells cs t)) ds t'
  rw [World.size_alloc] at h
  exact h
theorem sQ_mk {w : World} {vA vO : Value} {z : Int} {ats : List At} {out : List Int} {FA FO : List Nat} (hA : SV 89 2 sAt w vA ats FA) (hO : SV 3 1 sI w vO out FO) : sQ w [.int .i64 z, vA, vO] (z, ats, out) (FA ++ FO) :=
  ⟨[.int .i64 z], [vA, vO], [], FA ++ FO, rfl, rfl, ⟨rfl, rfl⟩, ⟨[vA], [vO], FA, FO, rfl, rfl, ⟨_, rfl, hA⟩, ⟨_, rfl, hO⟩, rfl⟩, by simp⟩
structure QrD (q : Qd) : Prop where
  v : vqB q = true
  f : FewQ q
theorem QrD.i {q : Qd} (h : QrD q) : 1 ≤ q.1 ∧ q.1 ≤ 5 := vq_n (n := q.1) (ats := q.2.1) (out := q.2.2) h.v
theorem QrD.n {q : Qd} (h : QrD q) : 1 ≤ q.2.1.length ∧ q.2.1.length ≤ 4 := by
  have h1 := h.v
  unfold vqB at h1
  simp only [Bool.and_eq_true] at h1
  have := inB_t h1.1.1.1.2
  omega
theorem known_at {j : Nat} {x : ByteArray} (h : (#[.string ⟨#[40, 88, 89, 90, 41, 61, 114, 40, 88, 89, 41, 44, 115, 40, 89, 90, 41, 44, 116, 40, 90, 88, 41]⟩, .string ⟨#[40, 88, 89, 90, 85, 41, 61, 114, 40, 88, 89, 41, 44, 115, 40, 89, 90, 41, 44, 116, 40, 90, 85, 41, 44, 117, 40, 85, 88, 41]⟩, .string ⟨#[40, 88, 89, 90, 41, 61, 114, 40, 88, 89, 41, 44, 115, 40, 89, 90, 41]⟩, .string ⟨#[40, 88, 41, 61, 114, 40, 88, 89, 41, 44, 115, 40, 89, 90, 41, 44, 116, 40, 90, 85, 41]⟩, .string ⟨#[40, 88, 89, 90, 41, 61, 118, 40, 88, 89, 90, 41, 44, 114, 40, 88, 89, 41]⟩, .string ⟨#[40, 88, 89, 41, 61, 114, 40, 88, 89, 41, 44, 114, 40, 89, 88, 41]⟩, .string ⟨#[40, 88, 89, 90, 85, 41, 61, 118, 40, 88, 89, 90, 41, 44, 115, 40, 90, 85, 41, 44, 116, 40, 85, 88, 41]⟩, .string ⟨#[40, 88, 41, 61, 114, 40, 88, 88, 41]⟩, .string ⟨#[40, 88, 89, 41, 61, 114, 40, 88, 90, 41, 44, 115, 40, 90, 89, 41, 44, 114, 40, 88, 85, 41, 44, 115, 40, 85, 89, 41]⟩, .string ⟨#[40, 41, 61, 114, 40, 88, 89, 41, 44, 115, 40, 89, 88, 41]⟩, .string ⟨#[40, 88, 89, 90, 85, 86, 41, 61, 114, 40, 88, 89, 41, 44, 115, 40, 89, 90, 41, 44, 116, 40, 90, 85, 41, 44, 117, 40, 85, 86, 41]⟩] : Array Value)[j]? = some (.string x)) : x ∈ knownQ := by
  have h2 : (knownQ.map Value.string)[j]? = some (.string x) := by rw [← h, ← Array.getElem?_toList]; rfl
  rw [List.getElem?_map] at h2
  cases e : knownQ[j]? with
  | none => rw [e] at h2; cases h2
  | some s =>
    rw [e] at h2
    injection h2 with h2
    injection h2 with h2
    subst h2
    exact List.mem_of_getElem? e
theorem known_size : ∀ s ∈ knownQ, s.size ≤ 100 := by decide
def QrP (w0 : World) (g : Nat) (w : World) (e : Ending) (w' : World) : Prop := ∃ v0 v1 v2 F q, e = .returned (.agg #[v0, v1, v2]) ∧ sQ w' [v0, v1, v2] q F ∧ F.Nodup ∧ (∀ b ∈ F, w.heap.size ≤ b) ∧ QrD q ∧ Cur w0 w' g ∧ Chg [g] w w'
set_option maxRecDepth 100000 in
set_option maxHeartbeats 80000000 in
theorem l7Query_any {g : Nat} {w0 w : World} (hc : Cur w0 w g) : Calls Try.prog 65 #[.pointer (some ⟨g, 0, none⟩)] w (QrP w0 g w) := by
  have hgw := hc.lt
  have hw0w := size_of_ext hc.2.1
  have Hc0 := Lib.hid hc
  clear hc
  go_enter Try.func65, Try.ntmps65
  go_upto_region 1 with fail
  refine wp_name ?_
  intro W hW
  have xW : ∃ y, W = ext w y := by rw [hW.out]; exact (by refine x'z ?_; repeat (with_reducible (first | exact x'a _ _ | exact x'b _ | exact x'c (by assumption) | refine x'd ?_ (by assumption) | refine x'e ?_ _ | refine x'f ?_ _ | refine x'g ?_ | refine x'h ?_ ?_ _ | refine x'i ?_ _ | refine x'j ?_ | refine x'k ?_ _ | refine x'l ?_ _ _ | refine x'm ?_ | assumption | (refine x'n ?_; omega) | omega)))
  have BW0 : BoxAt W (w.heap.size) #[.int .i64 0, .slice none 0 0, .slice none 0 0] := by rw [hW.out]; refine ⟨?_, fun j => ?_, fun j => ?_⟩ <;> go_simp
  obtain ⟨lW0, bW0, fW0⟩ := BW0
  have cW0_0 : W.cell? ⟨w.heap.size, 0, none⟩ = some (.int .i64 0) := bW0 0
  have cW0_1 : W.cell? ⟨w.heap.size, 1, none⟩ = some (.slice none 0 0) := bW0 1
  have cW0_2 : W.cell? ⟨w.heap.size, 2, none⟩ = some (.slice none 0 0) := bW0 2
  clear hW
  have HR := Lib.hid (show BoxAt W w.heap.size #[.int .i64 0, .slice none 0 0, .slice none 0 0] from ⟨lW0, bW0, fW0⟩)
  clear bW0 fW0 cW0_0 cW0_1 cW0_2
  have hzW := size_of_ext xW
  go_wp2_with fail
  refine (l1Pick_any (m := 11) (Hc0.out.toExt (trans_ext xW (alloc_ext _ _))) (by omega) (by omega) (BoxAt.new _ _ _) (by intro j hj; rcases j with _ | _ | _ | _ | _ | _ | _ | _ | _ | _ | _ | j <;> first | exact ⟨_, rfl⟩ | omega) (by omega)).mono ?_
  rintro e w1 ⟨s, j, rfl, hj, hz, hc1, hC1⟩
  have hkn := known_at hz
  obtain ⟨q, hq, hqv, hqf⟩ := known_ok hkn
  have hss := known_size s hkn
  have HC1 := Lib.hid (((Chg.ofExt (F := [g]) xW).trans0 (alloc_ext W _)).trans hC1 (fun x hx => .inl hx))
  have HR1 := Lib.hid ((HR.out.toExt (alloc_ext W _)).chg hC1 (by simp; omega))
  have hz1 := hC1.size
  rw [World.size_alloc] at hz1
  have Hc1 := Lib.hid hc1
  have HQ := Lib.hid hq
  have HQD := Lib.hid (QrD.mk hqv hqf)
  clear hz hj hC1 hc1 hkn hq hqv hqf
  go_wp2_with fail
  refine (specParseQuery_any (by omega)).mono ?_
  rintro e w2 ⟨u0, u1, u2, F2, rfl, hx2, hS2, hN2, hF2⟩
  rw [HQ.out] at hS2 ⊢
  simp only [Option.getD_some, Option.isSome_some] at hS2 ⊢
  obtain ⟨A2, a2, B2, b2, rfl, rfl, rfl⟩ := sQ_form hS2
  obtain ⟨FA, FO, rfl, _, ⟨_, eA2, hA2⟩, hO2⟩ := sQ_get hS2
  injection eA2 with eA2
  subst eA2
  have hz2 := size_of_ext hx2
  have hFl := SMono.lt hS2
  have HN2 := Lib.hid hN2
  have HF2 := Lib.hid hF2
  clear hS2 hN2 hF2
  go_upto_region 3 with fail
  refine wp_name ?_
  intro W3 hW3
  have x3 : ∃ y, W3 = ext w2 y := by rw [hW3.out]; exact (by refine x'z ?_; repeat (with_reducible (first | exact x'a _ _ | exact x'b _ | exact x'c (by assumption) | refine x'd ?_ (by assumption) | refine x'e ?_ _ | refine x'f ?_ _ | refine x'g ?_ | refine x'h ?_ ?_ _ | refine x'i ?_ _ | refine x'j ?_ | refine x'k ?_ _ | refine x'l ?_ _ _ | refine x'm ?_ | assumption | (refine x'n ?_; omega) | omega)))
  have B3 : BoxAt W3 w2.heap.size #[.int .i64 q.1, .slice A2 q.2.1.length a2, .slice B2 q.2.2.length b2] := by rw [hW3.out]; exact (by repeat (with_reducible (first | assumption | exact BoxAt.new _ _ _ | apply BoxAt.set3 | refine BoxAt.set3' ?_ (by omega) | apply BoxAt.set30 | apply BoxAt.set31 | apply BoxAt.set32 | apply BoxAt.set2 | refine BoxAt.set2' ?_ (by omega) | apply BoxAt.setP0 | apply BoxAt.setP1 | refine BoxAt.setO ?_ (by omega) | refine BoxAt.alloc ?_ _ | refine BoxAt.drew ?_ | refine BoxAt.toExt ?_ (by assumption))))
  have x13 := trans_ext hx2 x3
  have HR3 := Lib.hid (HR1.out.toExt x13)
  have HC3 := Lib.hid (HC1.out.trans0 x13)
  have Hc3 := Lib.hid (Hc1.out.toExt x13)
  have HA3 := Lib.hid (hA2.toExt x3)
  have HO3 := Lib.hid (hO2.toExt x3)
  have hz3 := size_of_ext x3
  obtain ⟨b3, q3⟩ : ∃ b, w2.heap.size = b := ⟨_, rfl⟩
  have HF3 := Lib.hid (show ∀ b ∈ FA ++ FO, W.heap.size ≤ b ∧ b < b3 from fun b hb => ⟨by have := HF2.out b hb; omega, by have := hFl b hb; omega⟩)
  rw [q3] at B3 hz2 hz3 ⊢
  have hb3 : b3 < W3.heap.size := B3.1
  have n3g : b3 ≠ g := by omega
  have HB3 := Lib.hid B3
  clear hW3 B3 q3 hFl hA2 hO2 HF2 HR1 HC1 Hc1 x3 x13 hx2
  go_wp2_with fail
  refine (l1Once_any Hc3.out (by omega) (by omega)).mono ?_
  rintro e w4 ⟨t, rfl, hc4, hC4⟩
  have HB4 := Lib.hid (HB3.out.chg hC4 (by simpa using n3g))
  have HR4 := Lib.hid (HR3.out.chg hC4 (by simp; omega))
  have HC4 := Lib.hid (HC3.out.trans hC4 (fun x hx => .inl hx))
  have Hc4 := Lib.hid hc4
  have HA4 := Lib.hid (HA3.out.chg hC4 (fun b hb h => by have := HF3.out b (List.mem_append_left _ hb); rw [List.mem_singleton.1 h] at this; omega))
  have HO4 := Lib.hid (HO3.out.chg hC4 (fun b hb h => by have := HF3.out b (List.mem_append_right _ hb); rw [List.mem_singleton.1 h] at this; omega))
  have hz4 := hC4.size
  clear hc4 hC4 HB3 HR3 HC3 Hc3 HA3 HO3
  cases t with
  | false =>
    have HBB := HB4
    have HR9 := HR4
    have HA9 := HA4
    have HO9 := HO4
    have HF9 := Lib.hid (show ∀ b ∈ FA ++ FO, W.heap.size ≤ b from fun b hb => (HF3.out b hb).1)
    have HN9 := HN2
    have HD9 := HQD
    have Hc9 := Hc4
    have HC9 := HC4
    go_upto_region 4 with fail
    obtain ⟨lf1, kf10, kf11, kf12, ff1⟩ := box3 HBB.out
    obtain ⟨lf2, kf20, kf21, kf22, ff2⟩ := box3 HR9.out
    go_wp2_with fail
    refine bodyPost_ret (v := .agg #[.int .i64 q.1, .slice A2 q.2.1.length a2, .slice B2 q.2.2.length b2]) (by simp [results, Try.results65, go_sem, *]) rfl ?_
    show QrP w0 g w _ _
    have hC9 := ((((Chg.refl [w.heap.size] w4).setCell (p := ⟨w.heap.size, 0, none⟩) (.inl (by simp)) (.int .i64 q.1)).setCell (p := ⟨w.heap.size, 1, none⟩) (.inl (by simp)) (.slice A2 q.2.1.length a2)).setCell (p := ⟨w.heap.size, 2, none⟩) (.inl (by simp)) (.slice B2 q.2.2.length b2))
    exact ⟨_, _, _, (FA ++ FO), (q.1, q.2.1, q.2.2), rfl, OD.chg (sQ_mk HA9.out HO9.out) hC9 (fun b hb h => by have := HF9.out b hb; rw [List.mem_singleton.1 h] at this; omega), HN9.out, fun b hb => by have := HF9.out b hb; omega, HD9.out, Hc9.out.chg hC9 (by simp; omega) (by simp; omega), HC9.out.trans hC9 (fun x hx => .inr (by rw [List.mem_singleton.1 hx]; omega))⟩
  | true =>
    go_wp2_with fail
    refine (l1Below_any Hc4.out (by omega) (by omega)).mono ?_
    rintro e w5 ⟨x, rfl, hx0, hx1, hc5, hC5⟩
    obtain ⟨n, rfl⟩ : ∃ n : Nat, x = n := ⟨x.toNat, by omega⟩
    have HB5 := Lib.hid (HB4.out.chg hC5 (by simpa using n3g))
    have HR5 := Lib.hid (HR4.out.chg hC5 (by simp; omega))
    have HC5 := Lib.hid (HC4.out.trans hC5 (fun x hx => .inl hx))
    have Hc5 := Lib.hid hc5
    have HA5 := Lib.hid (HA4.out.chg hC5 (fun b hb h => by have := HF3.out b (List.mem_append_left _ hb); rw [List.mem_singleton.1 h] at this; omega))
    have HO5 := Lib.hid (HO4.out.chg hC5 (fun b hb h => by have := HF3.out b (List.mem_append_right _ hb); rw [List.mem_singleton.1 h] at this; omega))
    have hz5 := hC5.size
    clear hc5 hC5 HB4 HR4 HC4 Hc4 HA4 HO4
    go_upto_region 6 with fail
    refine wp_name ?_
    intro W6 hW6
    have x6 : ∃ y, W6 = ext w5 y := by rw [hW6.out]; exact (by refine x'z ?_; repeat (with_reducible (first | exact x'a _ _ | exact x'b _ | exact x'c (by assumption) | refine x'd ?_ (by assumption) | refine x'e ?_ _ | refine x'f ?_ _ | refine x'g ?_ | refine x'h ?_ ?_ _ | refine x'i ?_ _ | refine x'j ?_ | refine x'k ?_ _ | refine x'l ?_ _ _ | refine x'm ?_ | assumption | (refine x'n ?_; omega) | omega)))
    have B6 : BoxAt W6 w5.heap.size #[.int .i64 (1 + (n : Int)), .slice none 0 0, .slice none 0 0] := by rw [hW6.out]; exact (by repeat (with_reducible (first | assumption | exact BoxAt.new _ _ _ | apply BoxAt.set3 | refine BoxAt.set3' ?_ (by omega) | apply BoxAt.set30 | apply BoxAt.set31 | apply BoxAt.set32 | apply BoxAt.set2 | refine BoxAt.set2' ?_ (by omega) | apply BoxAt.setP0 | apply BoxAt.setP1 | refine BoxAt.setO ?_ (by omega) | refine BoxAt.alloc ?_ _ | refine BoxAt.drew ?_ | refine BoxAt.toExt ?_ (by assumption))))
    have HB6 := Lib.hid (HB5.out.toExt x6)
    have HR6 := Lib.hid (HR5.out.toExt x6)
    have HC6 := Lib.hid (HC5.out.trans0 x6)
    have Hc6 := Lib.hid (Hc5.out.toExt x6)
    have HA6 := Lib.hid (HA5.out.toExt x6)
    have HO6 := Lib.hid (HO5.out.toExt x6)
    have hz6 := size_of_ext x6
    obtain ⟨b6, q6⟩ : ∃ b, w5.heap.size = b := ⟨_, rfl⟩
    rw [q6] at B6 hz5 hz6 ⊢
    have hb6 : b6 < W6.heap.size := B6.1
    have n6g : b6 ≠ g := by omega
    have n63 : b6 ≠ b3 := by omega
    have HX6 := Lib.hid B6
    clear hW6 B6 q6 x6 HB5 HR5 HC5 Hc5 HA5 HO5
    go_wp2_with fail
    refine (l1Below_any Hc6.out (by omega) (by omega)).mono ?_
    rintro e w7 ⟨x, rfl, hy0, hy1, hc7, hC7⟩
    obtain ⟨m, rfl⟩ : ∃ m : Nat, x = m := ⟨x.toNat, by omega⟩
    have HB7 := Lib.hid (HB6.out.chg hC7 (by simpa using n3g))
    have HR7 := Lib.hid (HR6.out.chg hC7 (by simp; omega))
    have HC7 := Lib.hid (HC6.out.trans hC7 (fun x hx => .inl hx))
    have Hc7 := Lib.hid hc7
    have HA7 := Lib.hid (HA6.out.chg hC7 (fun b hb h => by have := HF3.out b (List.mem_append_left _ hb); rw [List.mem_singleton.1 h] at this; omega))
    have HO7 := Lib.hid (HO6.out.chg hC7 (fun b hb h => by have := HF3.out b (List.mem_append_right _ hb); rw [List.mem_singleton.1 h] at this; omega))
    have HX7 := Lib.hid (HX6.out.chg hC7 (by simpa using n6g))
    have hz7 := hC7.size
    clear hc7 hC7 HB6 HR6 HC6 Hc6 HA6 HO6 HX6
    obtain ⟨N, hN⟩ : ∃ N : Nat, 1 + n = N := ⟨_, rfl⟩
    have hNv : (1 : Int) + (n : Int) = (N : Int) := by omega
    rw [hNv] at HX7
    have hN4 : N ≤ 4 := by omega
    have hN1 : 1 ≤ N := by omega
    clear hN hNv
    go_wp2_with fail
    go_loopw [7] (fun i wr => ∃ (k : Nat) (A : Option Addr) (c : Nat) (ats : List At) (F : List Nat), i = .int .i64 k ∧ Hid (BoxAt wr b6 #[.int .i64 N, .slice A ats.length c, .slice none 0 0]) ∧ Hid (SV 89 2 sAt wr (.slice A ats.length c) ats F) ∧ Hid F.Nodup ∧ Hid (∀ b ∈ F, w7.heap.size ≤ b) ∧ Hid (∀ x ∈ ats, x.1.size ≤ 4 ∧ x.2.length ≤ 5) ∧ ats.length + k ≤ 4 ∧ Hid (Cur w0 wr g) ∧ Hid (Chg [g, b6] w7 wr)) (fun i _ => (intOf i).toNat)
    case atStart => exact ⟨m + 1, none, 0, [], [], by rw [show (1 : Int) + (m : Int) = ((m + 1 : Nat) : Int) by omega], HX7, Lib.hid SV.nil, Lib.hid (by simp), Lib.hid (by simp), Lib.hid (by simp), by simp; omega, Hc7, Lib.hid (Chg.refl _ _)⟩
    case round =>
      clear hx0 hx1 hy0 hy1 HX7 Hc7
      obtain ⟨k, A, c, ats, F, rfl, HB, HS, HN, HF, HT, hl, Hcr, HC⟩ := hrel
      obtain ⟨wL, rfl⟩ : ∃ W, W = wr := ⟨_, rfl⟩
      have hzL := HC.out.size
      by_cases hlt : 0 < k
      · go_wp2_with fail
        refine (l1Below_any Hcr.out (by omega) (by omega)).mono ?_
        rintro e w8 ⟨x, rfl, hx0, hx1, hc8, hC8⟩
        obtain ⟨k8, rfl⟩ : ∃ n : Nat, x = n := ⟨x.toNat, by omega⟩
        have hk8 : k8 < 5 := by omega
        have HB8 := Lib.hid (HB.out.chg hC8 (by simpa using n6g))
        have HS8 := Lib.hid (HS.out.chg hC8 (fun b hb h => by have := HF.out b hb; rw [List.mem_singleton.1 h] at this; omega))
        have HC8 := Lib.hid (HC.out.trans hC8 (fun x hx => .inl (by rw [List.mem_singleton.1 hx]; simp)))
        have Hc8 := Lib.hid hc8
        have hz8 := hC8.size
        clear hc8 hC8
        go_upto_region 10 with fail
        go_cut [9] (fun v wx => ∃ s : ByteArray, v = .pointer (some ⟨w8.heap.size + 1, 0, none⟩) ∧ s.size = 1 ∧ BoxAt wx (w8.heap.size + 1) #[.string s, .slice none 0 0] ∧ ∃ y, wx = ext w8 y)
        case first =>
          rcases k8 with _ | _ | _ | _ | _ | k8
          any_goals omega
          all_goals
            go_wp2_with fail
            go_meet
            refine ⟨_, rfl, ?_, (by first | exact box_second | exact box_second.set2), (by refine x'z ?_; repeat (with_reducible (first | exact x'a _ _ | exact x'b _ | exact x'c (by assumption) | refine x'd ?_ (by assumption) | refine x'e ?_ _ | refine x'f ?_ _ | refine x'g ?_ | refine x'h ?_ ?_ _ | refine x'i ?_ _ | refine x'j ?_ | refine x'k ?_ _ | refine x'l ?_ _ _ | refine x'm ?_ | assumption | (refine x'n ?_; omega) | omega)))⟩
            rfl
        obtain ⟨s, rfl, hs1, B9, x10⟩ := hcut
        obtain ⟨W10, rfl⟩ : ∃ W, W = wc := ⟨_, rfl⟩
        have HB10 := Lib.hid (HB8.out.toExt x10)
        have HS10 := Lib.hid (HS8.out.toExt x10)
        have HC10 := Lib.hid (HC8.out.trans0 x10)
        have Hc10 := Lib.hid (Hc8.out.toExt x10)
        have hz10 := size_of_ext x10
        obtain ⟨b9, q9⟩ : ∃ b, w8.heap.size + 1 = b := ⟨_, rfl⟩
        have hb9l : w8.heap.size < b9 := by omega
        rw [q9] at B9 ⊢
        have hb9 : b9 < W10.heap.size := B9.1
        have n9g : b9 ≠ g := by omega
        have n96 : b9 ≠ b6 := by omega
        have n9F : Hid (b9 ∉ F) := Lib.hid (fun h => by have := HS8.out.lt b9 h; omega)
        have HX10 := Lib.hid B9
        clear B9 q9 x10 HB8 HS8 HC8 Hc8
        go_wp2_with fail
        go_loopw [10] (fun i wr => ∃ (j : Nat) (A' : Option Addr) (c' : Nat) (vs : List Int) (F' : List Nat), i = .int .i64 j ∧ Hid (BoxAt wr b9 #[.string s, .slice A' vs.length c']) ∧ Hid (SV 3 1 sI wr (.slice A' vs.length c') vs F') ∧ Hid (∀ b ∈ F', W10.heap.size ≤ b) ∧ vs.length + j ≤ 3 ∧ Hid (Cur w0 wr g) ∧ Hid (Chg [g, b9] W10 wr)) (fun i _ => (intOf i).toNat)
        case atStart => exact ⟨2 + k8 / 4, none, 0, [], [], by rw [show (2 : Int) + (k8 : Int) / 4 = ((2 + k8 / 4 : Nat) : Int) by omega], HX10, Lib.hid SV.nil, Lib.hid (by simp), by simp; omega, Hc10, Lib.hid (Chg.refl _ _)⟩
        case round =>
          obtain ⟨j, A', c', vs, F', rfl, HB9, HS9, HF9, hl9, Hcr9, HC9⟩ := hrel
          have hz9 := HC9.out.size
          have HBr := Lib.hid (HB10.out.chg HC9.out (by simp; omega))
          have h9r := HB9.out.1
          by_cases hj : 0 < j
          · have ng9 : Hid (∀ b ∈ F', b ∉ [g]) := Lib.hid (fun b hb h => by have := HF9.out b hb; rw [List.mem_singleton.1 h] at this; omega)
            have n9F9 : Hid (b9 ∉ F') := Lib.hid (fun h => by have := HF9.out b9 h; omega)
            obtain ⟨l9, k90, k91, f9⟩ := bx2 HB9.out
            obtain ⟨l6, k60, k61, k62, f6⟩ := box3 HBr.out
            go_upto_region 14 with fail
            go_region_law (first
              | (refine step_app1 (E := sI) (d := y) (by rfl) _ _ _ (by rfl) tI (by rfl) (by rfl) (by rfl) (by rfl) (fun _ => ⟨rfl, rfl⟩) (by rfl) (by simp [Value.oneCell']) HSA.out (by omega) (by omega) ?_; intro v7 w7' F7 hS7 hC7 hF7; obtain ⟨A7, c7, rfl, _, _⟩ := hS7.form; have B7 := HBA.out.chg hC7 n9F9.out; obtain ⟨l7, k7, k7', f7⟩ := bx2 B7)
              | (rw [if_pos (by simp [Region.wanted])]; go_wp2_with (go_at_call 55; refine (l1Below_any (Hcr9.out.toExt (by refine x'z ?_; repeat (with_reducible (first | exact x'a _ _ | exact x'b _ | exact x'c (by assumption) | refine x'd ?_ (by assumption) | refine x'e ?_ _ | refine x'f ?_ _ | refine x'g ?_ | refine x'h ?_ ?_ _ | refine x'i ?_ _ | refine x'j ?_ | refine x'k ?_ _ | refine x'l ?_ _ _ | refine x'm ?_ | assumption | (refine x'n ?_; omega) | omega)))) (by omega) (by omega)).mono ?_; rintro e wa ⟨y, rfl, hya, hyb, hca, hCa⟩; have HSA := Lib.hid ((HS9.out.toExt (by refine x'z ?_; repeat (with_reducible (first | exact x'a _ _ | exact x'b _ | exact x'c (by assumption) | refine x'd ?_ (by assumption) | refine x'e ?_ _ | refine x'f ?_ _ | refine x'g ?_ | refine x'h ?_ ?_ _ | refine x'i ?_ _ | refine x'j ?_ | refine x'k ?_ _ | refine x'l ?_ _ _ | refine x'm ?_ | assumption | (refine x'n ?_; omega) | omega)))).chg hCa ng9.out); have HBA := Lib.hid ((HB9.out.toExt (by refine x'z ?_; repeat (with_reducible (first | exact x'a _ _ | exact x'b _ | exact x'c (by assumption) | refine x'd ?_ (by assumption) | refine x'e ?_ _ | refine x'f ?_ _ | refine x'g ?_ | refine x'h ?_ ?_ _ | refine x'i ?_ _ | refine x'j ?_ | refine x'k ?_ _ | refine x'l ?_ _ _ | refine x'm ?_ | assumption | (refine x'n ?_; omega) | omega)))).chg hCa (by simpa using n9g)); have HCA := Lib.hid (show Chg [g, b9] W10 wa from (HC9.out.trans0 (by refine x'z ?_; repeat (with_reducible (first | exact x'a _ _ | exact x'b _ | exact x'c (by assumption) | refine x'd ?_ (by assumption) | refine x'e ?_ _ | refine x'f ?_ _ | refine x'g ?_ | refine x'h ?_ ?_ _ | refine x'i ?_ _ | refine x'j ?_ | refine x'k ?_ _ | refine x'l ?_ _ _ | refine x'm ?_ | assumption | (refine x'n ?_; omega) | omega)))).trans hCa (fun x hx => .inl (by rw [List.mem_singleton.1 hx]; simp))); have Hca := Lib.hid hca; have hza := hCa.size; obtain ⟨la, ka, ka', fa⟩ := bx2 HBA.out; clear hca hCa)))
            all_goals
              have hl7 : (vs ++ [y]).length = vs.length + 1 := by simp
              (try rw [hl7] at hS7)
              have hF7n : ∀ b ∈ F7, W10.heap.size ≤ b := fun b hb => by
                rcases hF7 b hb with h | h
                · exact HF9.out b h
                · have := HCA.out.size; omega
              have hsC := (Chg.refl [b9] w7').setCell (p := ⟨b9, 1, none⟩) (.inl (by simp)) (.slice A7 (vs.length + 1) c7)
              have HB' := Lib.hid (B7.setP1 (v' := .slice A7 (vs.length + 1) c7))
              have HS' := Lib.hid (hS7.chg hsC (fun b hb h => by have := hF7n b hb; rw [List.mem_singleton.1 h] at this; omega))
              have Hc' := Lib.hid (((Hca.out.chg hC7 (fun h => ng9.out g h (by simp)) (fun b hb => by have := HF9.out b hb; omega))).chg hsC (by simpa using fun h => n9g h.symm) (by simp; omega))
              have HC' := Lib.hid ((HCA.out.trans hC7 (fun x hx => .inr (HF9.out x hx))).trans hsC (fun x hx => .inl (by rw [List.mem_singleton.1 hx]; simp)))
              have HF' := Lib.hid hF7n
              clear hF7n hsC hS7 hC7 hF7 B7
              go_wp2_with fail
              exact ⟨⟨j - 1, A7, c7, vs ++ [y], F7, by go_num, by rw [hl7]; exact HB', by rw [hl7]; exact HS', HF', by rw [hl7]; omega, Hc', HC'⟩, by simp [intOf]; omega⟩
          · have HSr := Lib.hid (HS10.out.chg HC9.out (fun b hb h => by
              rcases List.mem_cons.1 h with h | h
              · have := HF.out b hb; omega
              · rw [List.mem_singleton.1 h] at hb; exact n9F.out hb))
            have HNN := Lib.hid (nodup_more HN.out HS9.out.nodup HS10.out.lt HF9.out)
            have HCr := Lib.hid (show Chg [g, b6] w7 wr from HC10.out.trans HC9.out (fun x hx => by
              rcases List.mem_cons.1 hx with h | h
              · exact .inl (by rw [h]; simp)
              · rw [List.mem_singleton.1 h]; exact .inr (by omega)))
            have n6F : Hid (b6 ∉ F) := Lib.hid (fun h => by have := HF.out b6 h; omega)
            obtain ⟨l9, k90, k91, f9⟩ := bx2 HB9.out
            obtain ⟨l6, k60, k61, k62, f6⟩ := box3 HBr.out
            go_wp2_with (at_builtin; refine wpList_appN (E := sAt) (d := (s, vs)) (G := F') rfl _ _ _ rfl tA rfl rfl rfl (by simp) (sAt_mk HS9.out) rfl (by simp [Value.oneCell']) HSr.out HNN.out (by omega) (by omega) ?_; intro v8 w8' F8 hS8 hC8 hN8 hF8; obtain ⟨A8, c8, rfl, _, _⟩ := hS8.form; have B8 := HBr.out.chg hC8 n6F.out; obtain ⟨l8, k80, k81, k82, f8⟩ := box3 B8)
            have hl8 : (ats ++ [(s, vs)]).length = ats.length + 1 := by simp
            (try rw [hl8] at hS8)
            have hF8n : ∀ b ∈ F8, w7.heap.size ≤ b := fun b hb => by
              rcases hF8 b hb with h | h | h
              · exact HF.out b h
              · have := HF9.out b h; omega
              · omega
            have hsC := (Chg.refl [b6] w8').setCell (p := ⟨b6, 1, none⟩) (.inl (by simp)) (.slice A8 (ats.length + 1) c8)
            have hz8' := hC8.size
            exact ⟨⟨k - 1, A8, c8, ats ++ [(s, vs)], F8, by go_num, Lib.hid (by rw [hl8]; exact B8.set31), Lib.hid (by rw [hl8]; exact hS8.chg hsC (fun b hb h => by have := hF8n b hb; rw [List.mem_singleton.1 h] at this; omega)), Lib.hid hN8, Lib.hid hF8n, Lib.hid (fun t ht => by
              rcases List.mem_append.1 ht with h | h
              · exact HT.out t h
              · rw [List.mem_singleton.1 h]; exact ⟨by dsimp only; omega, by dsimp only; omega⟩), by rw [hl8]; omega, Lib.hid ((Hcr9.out.chg hC8 (fun h => by have := HF.out g h; omega) (fun b hb => by have := HF.out b hb; omega)).chg hsC (by simpa using fun h => n6g h.symm) (by simp; omega)), Lib.hid ((HCr.out.trans hC8 (fun x hx => .inr (HF.out x hx))).trans hsC (fun x hx => .inl (by rw [List.mem_singleton.1 hx]; simp)))⟩, by simp [intOf]; omega⟩
      · go_wp2_with fail
        go_loopw [11] (fun i wr => ∃ (v : Nat) (B : Option Addr) (e : Nat) (out : List Int) (FB : List Nat), i = .int .i64 v ∧ v ≤ N ∧ Hid (BoxAt wr b6 #[.int .i64 N, .slice A ats.length c, .slice B out.length e]) ∧ Hid (SV 3 1 sI wr (.slice B out.length e) out FB) ∧ Hid (∀ b ∈ FB, wL.heap.size ≤ b) ∧ out.length ≤ v ∧ Hid (Cur w0 wr g) ∧ Hid (Chg [g, b6] wL wr)) (fun i _ => N - (intOf i).toNat)
        case atStart => exact ⟨0, none, 0, [], [], rfl, by omega, HB, Lib.hid SV.nil, Lib.hid (by simp), by simp, Hcr, Lib.hid (Chg.refl _ _)⟩
        case round =>
          obtain ⟨v, B, e, out, FB, rfl, hv, HX, HO, HFB, hlo, HcR, HCR⟩ := hrel
          have hzR := HCR.out.size
          obtain ⟨l6, k60, k61, k62, f6⟩ := box3 HX.out
          by_cases hvl : v < N
          · go_wp2_with fail
            refine (l1Once_any HcR.out (by omega) (by omega)).mono ?_
            rintro e' wa ⟨t, rfl, hca, hCa⟩
            have HXa := Lib.hid (HX.out.chg hCa (by simpa using n6g))
            have HOa := Lib.hid (HO.out.chg hCa (fun b hb h => by have := HFB.out b hb; rw [List.mem_singleton.1 h] at this; omega))
            have HCA := Lib.hid (HCR.out.trans hCa (fun x hx => .inl (by rw [List.mem_singleton.1 hx]; simp)))
            have Hca := Lib.hid hca
            have hza := hCa.size
            clear hca hCa
            cases t with
            | false =>
              go_wp2_with fail
              exact ⟨⟨v + 1, B, e, out, FB, by go_num, by omega, HXa, HOa, HFB, by omega, Hca, HCA⟩, by simp [intOf]; omega⟩
            | true =>
              have hS1 := SV.lit (te := 3) (E := sI) (u := .int .i64 (v : Int)) (d := (v : Int)) wa (fun _ => ⟨rfl, rfl⟩)
              have hO1 : RI (wa.alloc (.cells #[.int .i64 (v : Int)] 3)) B out := (HOa.out.toExt (alloc_ext _ _)).toView sI_v
              have B1 := HXa.out.alloc (.cells #[.int .i64 (v : Int)] 3)
              obtain ⟨l1, k10, k11, k12, f1⟩ := box3 B1
              clear l6 k60 k61 k62 f6
              go_wp2_with (at_builtin; refine wpList_appV (E := sI) (V := vI) (es := out) rfl _ _ _ rfl tI rfl hS1 rfl rfl hO1 vI_s vI_1 (by simp; omega) (by omega) ?_; intro v7 w7' F7 hS7 hC7 hF7; obtain ⟨A7, c7, rfl, _, _⟩ := hS7.form; have B7 := B1.chg hC7 (by simp; omega); obtain ⟨l7, k70, k71, k72, f7⟩ := box3 B7)
              have hl7 : ([(v : Int)] ++ out).length = out.length + 1 := by simp
              (try rw [hl7] at hS7)
              have hF7n : ∀ b ∈ F7, wL.heap.size ≤ b := fun b hb => by
                rcases hF7 b hb with h | h
                · rw [List.mem_singleton.1 h]; omega
                · simp at h; omega
              have hsC := (Chg.refl [b6] w7').setCell (p := ⟨b6, 2, none⟩) (.inl (by simp)) (.slice A7 (out.length + 1) c7)
              have hCw : Chg [g, b6] wL w7' := (HCA.out.alloc (.cells #[.int .i64 (v : Int)] 3)).trans hC7 (fun x hx => .inr (by rw [List.mem_singleton.1 hx]; omega))
              have hz7' := hC7.size
              rw [World.size_alloc] at hz7'
              exact ⟨⟨v + 1, A7, c7, [(v : Int)] ++ out, F7, by go_num, by omega, Lib.hid (by rw [hl7]; exact B7.set32), Lib.hid (by rw [hl7]; exact hS7.chg hsC (fun b hb h => by have := hF7n b hb; rw [List.mem_singleton.1 h] at this; omega)), Lib.hid hF7n, by rw [List.length_append, List.length_singleton]; omega, Lib.hid (((Hca.out.toExt (alloc_ext _ _)).chg hC7 (by simp; omega) (by simp; omega)).chg hsC (by simpa using fun h => n6g h.symm) (by simp; omega)), Lib.hid (hCw.trans hsC (fun x hx => .inl (by rw [List.mem_singleton.1 hx]; simp)))⟩, by simp [intOf]; omega⟩
          · have HA := Lib.hid (HS.out.chg HCR.out (fun b hb h => by
              have := HF.out b hb
              rcases List.mem_cons.1 h with h | h
              · omega
              · rw [List.mem_singleton.1 h] at this; omega))
            have HNB := Lib.hid (nodup_more HN.out HO.out.nodup HS.out.lt HFB.out)
            have hWQ : WQ ((N : Int), ats, out) := ⟨⟨by dsimp only; omega, by dsimp only; omega⟩, ⟨by dsimp only; omega, fun x hx => by have := HT.out x hx; omega⟩, by dsimp only; omega⟩
            have HWQ := Lib.hid hWQ
            have HCW := Lib.hid (show Chg [g, b6] w7 wr from HC.out.trans HCR.out (fun x hx => .inl hx))
            have HBr := Lib.hid (HB7.out.chg HCW.out (by simp; omega))
            have HRr := Lib.hid (HR7.out.chg HCW.out (by simp; omega))
            have HCw := Lib.hid (HC7.out.trans HCW.out (fun x hx => by
              rcases List.mem_cons.1 hx with h | h
              · exact .inl (by rw [h]; simp)
              · rw [List.mem_singleton.1 h]; exact .inr (by omega)))
            have HAr := Lib.hid (HA7.out.chg HCW.out (fun b hb h => by
              have := HF3.out b (List.mem_append_left _ hb)
              rcases List.mem_cons.1 h with h | h
              · omega
              · rw [List.mem_singleton.1 h] at this; omega))
            have HOr := Lib.hid (HO7.out.chg HCW.out (fun b hb h => by
              have := HF3.out b (List.mem_append_right _ hb)
              rcases List.mem_cons.1 h with h | h
              · omega
              · rw [List.mem_singleton.1 h] at this; omega))
            clear hWQ HB7 HR7 HA7 HO7 HC7
            go_wp2_with fail
            refine (specIsValidQuery_w (d := ((N : Int), ats, out)) HWQ.out (sQ_v _ _ _ (sQ_mk HA.out HO.out))).mono ?_
            rintro e' wb ⟨rfl, hxb⟩
            have HHX := Lib.hid hxb
            have Hc9 := Lib.hid (HcR.out.toExt hxb)
            have HC9 := Lib.hid (HCw.out.trans0 hxb)
            have HR9 := Lib.hid (HRr.out.toExt hxb)
            have hzb := size_of_ext hxb
            clear hxb l6 k60 k61 k62 f6
            by_cases hvq : vqB ((N : Int), ats, out) = true
            · rw [hvq]
              have HBB := Lib.hid (HX.out.toExt HHX.out)
              have HA9 := Lib.hid (HA.out.toExt HHX.out)
              have HO9 := Lib.hid (HO.out.toExt HHX.out)
              have HF9 := Lib.hid (show ∀ b ∈ F ++ FB, W.heap.size ≤ b from fun b hb => by
                rcases List.mem_append.1 hb with h | h
                · have := HF.out b h; omega
                · have := HFB.out b h; omega)
              have HN9 := HNB
              have HD9 := Lib.hid (show QrD ((N : Int), ats, out) from ⟨hvq, .inl (by dsimp only; omega)⟩)
              clear hvq
              obtain ⟨lf1, kf10, kf11, kf12, ff1⟩ := box3 HBB.out
              obtain ⟨lf2, kf20, kf21, kf22, ff2⟩ := box3 HR9.out
              go_wp2_with fail
              refine bodyPost_ret (v := .agg #[.int .i64 (N : Int), .slice A ats.length c, .slice B out.length e]) (by simp [results, Try.results65, go_sem, *]) rfl ?_
              show QrP w0 g w _ _
              have hC9 := ((((Chg.refl [w.heap.size] wb).setCell (p := ⟨w.heap.size, 0, none⟩) (.inl (by simp)) (.int .i64 (N : Int))).setCell (p := ⟨w.heap.size, 1, none⟩) (.inl (by simp)) (.slice A ats.length c)).setCell (p := ⟨w.heap.size, 2, none⟩) (.inl (by simp)) (.slice B out.length e))
              exact ⟨_, _, _, (F ++ FB), ((N : Int), ats, out), rfl, OD.chg (sQ_mk HA9.out HO9.out) hC9 (fun b hb h => by have := HF9.out b hb; rw [List.mem_singleton.1 h] at this; omega), HN9.out, fun b hb => by have := HF9.out b hb; omega, HD9.out, Hc9.out.chg hC9 (by simp; omega) (by simp; omega), HC9.out.trans hC9 (fun x hx => .inr (by rw [List.mem_singleton.1 hx]; omega))⟩
            · rw [Bool.eq_false_iff.2 hvq]
              have HBB := Lib.hid (HBr.out.toExt HHX.out)
              have HA9 := Lib.hid (HAr.out.toExt HHX.out)
              have HO9 := Lib.hid (HOr.out.toExt HHX.out)
              have HF9 := Lib.hid (show ∀ b ∈ FA ++ FO, W.heap.size ≤ b from fun b hb => (HF3.out b hb).1)
              have HN9 := HN2
              have HD9 := HQD
              clear hvq
              obtain ⟨lf1, kf10, kf11, kf12, ff1⟩ := box3 HBB.out
              obtain ⟨lf2, kf20, kf21, kf22, ff2⟩ := box3 HR9.out
              go_wp2_with fail
              refine bodyPost_ret (v := .agg #[.int .i64 q.1, .slice A2 q.2.1.length a2, .slice B2 q.2.2.length b2]) (by simp [results, Try.results65, go_sem, *]) rfl ?_
              show QrP w0 g w _ _
              have hC9 := ((((Chg.refl [w.heap.size] wb).setCell (p := ⟨w.heap.size, 0, none⟩) (.inl (by simp)) (.int .i64 q.1)).setCell (p := ⟨w.heap.size, 1, none⟩) (.inl (by simp)) (.slice A2 q.2.1.length a2)).setCell (p := ⟨w.heap.size, 2, none⟩) (.inl (by simp)) (.slice B2 q.2.2.length b2))
              exact ⟨_, _, _, (FA ++ FO), (q.1, q.2.1, q.2.2), rfl, OD.chg (sQ_mk HA9.out HO9.out) hC9 (fun b hb h => by have := HF9.out b hb; rw [List.mem_singleton.1 h] at this; omega), HN9.out, fun b hb => by have := HF9.out b hb; omega, HD9.out, Hc9.out.chg hC9 (by simp; omega) (by simp; omega), HC9.out.trans hC9 (fun x hx => .inr (by rw [List.mem_singleton.1 hx]; omega))⟩
end Go.Proofs.Ytbjpkfgkmilkdaa
