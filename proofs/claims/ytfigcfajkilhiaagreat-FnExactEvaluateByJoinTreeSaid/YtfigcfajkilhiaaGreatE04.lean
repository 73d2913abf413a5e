/- Contracts of functions that the statement reaches. -/
import Derived.Test.YtfigcfajkilhiaaGreatE03
import Derived.Test.YtfigcfajkilhiaaGreatE01
import Derived.Test.YtfigcfajkilhiaaGreatRows
import Derived.Test.YtfigcfajkilhiaaGreatE02
namespace Go.Proofs.YtfigcfajkilhiaaGreat
open Go.RowKit
def mkTb (k : Int) (x : Td) : Td × Int := ((mtx k, k + 1, (mkN mkI (k + 1 + 1) x.2.2).1), (mkN mkI (k + 1 + 1) x.2.2).2)
def lTb (x : Td) : Nat := 1 + 1 + (x.2.2.map fun y => y.length).sum
theorem mkTb_sum (k : Int) (xs : Dbd) : (mkN mkTb k xs).2 = k + ((xs.map lTb).sum : Nat) := mkN_sum (fun k x => by simp only [mkTb, mkI_sum, lTb]; omega) xs k
theorem mkTb_bd {k : Int} {xs : Dbd} (h0 : 0 ≤ k) (hs : k + ((xs.map lTb).sum : Nat) ≤ 99000000000) (i : Nat) : 0 ≤ (mkN mkTb k (xs.take i)).2 ∧ (mkN mkTb k (xs.take i)).2 ≤ 99000000000 := by
  rw [mkTb_sum]
  have := sum_take_le (c := lTb) xs i
  omega
theorem mkTb_tot : ∀ (d : Dbd), (d.map lTb).sum ≤ 2 * d.length + (d.map cTb).sum
  | [] => by simp
  | x :: d => by
    have := mkTb_tot d
    simp only [List.map_cons, List.sum_cons, List.length_cons, cTb, lTb, sum_one] at this ⊢
    omega
set_option maxHeartbeats 8000000 in
theorem markTableS_any {v : Value} {xs : Dbd} {F : List Nat} {k0 : Int} {w : World} (hb : BDb xs) (hS : SV 110 3 sTb w v xs F) (hN : F.Nodup) (h0 : 0 ≤ k0) (hk0 : k0 + ((xs.map lTb).sum : Nat) ≤ 85000000000) :
    Calls Tryz.prog 47 #[v, .int .i64 k0] w fun e w' => e = .returned (.int .i64 (mkN mkTb k0 xs).2) ∧ SV 110 3 sTb w' v (mkN mkTb k0 xs).1 F ∧ Chg F w w' := by
  have hx : xs.length ≤ 1000000000 := Nat.le_trans hb.1.1 (by omega)
  have Hxl := Lib.hid hb.each
  have HN := Lib.hid hN
  have hk0' : k0 + ((xs.map lTb).sum : Nat) ≤ 99000000000 := by omega
  have HB := Lib.hid (mkTb_bd h0 hk0')
  have HB9 : Hid (∀ i, (mkN mkTb k0 (xs.take i)).2 ≤ 85000000000) := Lib.hid (fun i => by
    rw [mkTb_sum]
    have := sum_take_le (c := lTb) xs i
    omega)
  clear hb hN hk0 hk0'
  obtain ⟨A, cap, rfl, _, _⟩ := hS.form
  go_enter Tryz.func47, Tryz.ntmps47
  go_wp2
  go_loopw [1, 5] (fun m i wr => ∃ k : Nat, i = .int .i64 k ∧ m = .int .i64 (mkN mkTb k0 (xs.take k)).2 ∧ k ≤ xs.length ∧ SV 110 3 sTb wr (.slice A xs.length cap) ((mkN mkTb k0 (xs.take k)).1 ++ xs.drop k) F ∧ Chg F w wr) (fun _ i _ => xs.length - (intOf i).toNat)
  case atStart => exact ⟨0, rfl, by simp [mkN], by omega, by simpa [mkN] using hS, Chg.refl F w⟩
  case round =>
    obtain ⟨k, rfl, rfl, hk, hSk, hC⟩ := hrel
    have hlen : ((mkN mkTb k0 (xs.take k)).1 ++ xs.drop k).length = xs.length := by simp; omega
    by_cases hlt : k < xs.length
    · obtain ⟨g, cap', hv, hgF, _, _⟩ := hSk.block (by intro e; rw [e] at hlen; simp at hlen; omega)
      rw [hlen] at hv
      injection hv with hA _ hc
      subst hA hc
      have hle := (Hxl.out xs[k] (List.getElem_mem hlt)).2.2
      obtain ⟨b1, _⟩ := HB.out k
      have b2 := HB9.out k
      have hst := mk_set (mk := mkTb) (k := k0) hlt
      have HT := Lib.hid (mkN_take (mk := mkTb) (k := k0) hlt)
      obtain ⟨m, hm⟩ : ∃ m, (mkN mkTb k0 (xs.take k)).2 = m := ⟨_, rfl⟩
      obtain ⟨L, hL⟩ : ∃ L, (mkN mkTb k0 (xs.take k)).1 ++ xs.drop k = L := ⟨_, rfl⟩
      rw [hm] at b1 b2 hst ⊢
      have HM := Lib.hid hm
      obtain ⟨x, hx⟩ : ∃ x, xs[k] = x := ⟨_, rfl⟩
      have HG : Hid (∀ h : k < L.length, L[k] = x) := Lib.hid (by subst hL; intro h; rw [← hx]; exact mk_get hlt h)
      rw [hL] at hst hSk hlen
      rw [hx] at hle hst
      have HX := Lib.hid hx
      have HS := Lib.hid hst
      have HL := Lib.hid hlen
      have hSk := Lib.hid hSk
      have HLE := Lib.hid hle
      have HK2 : Hid (k < L.length) := Lib.hid (by rw [HL.out]; exact hlt)
      clear hm hL hst hlen hx hle
      go_upto_region 5 with (go_at_call 86; refine (markText_any (by omega)).mono ?_; rintro e w2 ⟨rfl, hx2⟩; have hS2 := hSk.out.toExt hx2; obtain ⟨g2, cap2, c2, Fk2, hv2, hg2, hgF2, hgk2, hsub2, hNk2, hcl2, hcell2, hfz2, hE2, _, hup2⟩ := hS2.at HN.out HK2.out; obtain rfl := sl_blk hv2; clear hv2; rw [HG.out HK2.out] at hE2; obtain ⟨An, nn, rfl⟩ := sTb_list hE2; have hc20 := hcell2 0 (by simp); simp only [Nat.add_zero, List.getElem_cons_zero] at hc20; have HE2 := Lib.hid hE2; have Hup := Lib.hid hup2; clear hcell2 hup2 hsub2 hcl2 hS2 hE2)
      refine wp_name ?_
      intro w3 hw3
      have hR2 : sRel w2 [.int .i64 x.2.1, .slice An x.2.2.length nn] x.2 Fk2 := by obtain ⟨_, _, _, _, _, h⟩ := sTb_form HE2.out; exact h
      obtain ⟨hS3, hC3⟩ := Hup.out 0 (.string (mtx m)) (mtx m, x.2) (by omega) (show sTb w2 [.string (mtx m), .int .i64 x.2.1, .slice An x.2.2.length nn] (mtx m, x.2) Fk2 from sTb_mk hR2)
      rw [Nat.add_zero, ← hw3.out] at hS3 hC3
      obtain ⟨g3, cap3, c3, Fk3, hv3, hg3, hgF3, hgk3, hsub3, hNk3, hcl3, hcell3, hfz3, hE3, _, hup3⟩ := hS3.at HN.out (k := k) (by simpa using HK2.out)
      obtain rfl := sl_blk hv3
      rw [List.getElem_set_self] at hE3
      obtain ⟨A3, n3, rfl⟩ := sTb_list hE3
      have hc31 := hcell3 1 (by simp)
      simp only [List.getElem_cons_zero, List.getElem_cons_succ] at hc31
      have Hup3 := Lib.hid hup3
      have HE3 := Lib.hid hE3
      have HC3 := Lib.hid hC3
      have HgF := Lib.hid hgF
      clear hv3 hcell3 hup3 hsub3 hcl3 hS3 hC3 hw3 hc20 Hup hE3 hfz2 hR2 HE2
      go_upto_region 7 with fail
      refine wp_name ?_
      intro w4 hw4
      have hR3 : sII w3 [.slice A3 x.2.2.length n3] x.2.2 Fk3 := by
        obtain ⟨_, _, _, _, _, h⟩ := sTb_form HE3.out
        obtain ⟨_, _, _, _, h⟩ := sRel_form h
        exact h
      obtain ⟨hS4, hC4⟩ := Hup3.out 1 (.int .i64 (m + 1)) (mtx m, m + 1, x.2.2) (by omega) (show sTb w3 [.string (mtx m), .int .i64 (m + 1), .slice A3 x.2.2.length n3] (mtx m, m + 1, x.2.2) Fk3 from sTb_mk (sRel_mk hR3))
      rw [← hw4.out] at hS4 hC4
      obtain ⟨g4, cap4, c4, Fk4, hv4, hg4, hgF4, hgk4, hsub4, hNk4, hcl4, hcell4, hfz4, hE4, hup4, _⟩ := hS4.at HN.out (k := k) (by simpa using HK2.out)
      obtain rfl := sl_blk hv4
      rw [List.getElem_set_self] at hE4
      obtain ⟨A4, n4, rfl⟩ := sTb_list hE4
      have hc42 := hcell4 2 (by simp)
      simp only [List.getElem_cons_zero, List.getElem_cons_succ] at hc42
      have hR4 : sII w4 [.slice A4 x.2.2.length n4] x.2.2 Fk4 := by
        obtain ⟨_, _, _, _, _, h⟩ := sTb_form hE4
        obtain ⟨_, _, _, _, h⟩ := sRel_form h
        exact h
      have Hup4 := Lib.hid hup4
      have Hsub4 := Lib.hid hsub4
      have HC4 := Lib.hid hC4
      clear hv4 hcell4 hup4 hsub4 hcl4 hS4 hC4 hw4 hc31 Hup3 hE4 hfz3 hR3 HE3 hfz4
      go_wp2_with (go_at_call 50; refine (markIntSS_d HLE.out hR4 hNk4 (by omega) (by omega)).mono ?_; rintro e w5 ⟨k5, rfl, HK5, kl5, ku5, hS5, hC5⟩)
      have h5 := Hup4.out w5 (mtx m, m + 1, (mkN mkI (m + 1 + 1) x.2.2).1) (sTb_mk (sRel_mk hS5)) hC5
      rw [List.set_set, List.set_set] at h5
      have e3 : L.set k (mtx m, m + 1, (mkN mkI (m + 1 + 1) x.2.2).1) = (mkN mkTb k0 (xs.take (k + 1))).1 ++ xs.drop (k + 1) := HS.out
      have e4 : (mkN mkTb k0 (xs.take (k + 1))).2 = k5 := by rw [HT.out, HM.out, HX.out]; exact HK5.out
      exact ⟨⟨k + 1, by go_num, by rw [e4], by omega, by rw [← e3]; exact h5, (((Chg.trans0 hC hx2).trans HC3.out (fun y hy => .inl (by rw [List.mem_singleton.1 hy]; exact HgF.out))).trans HC4.out (fun y hy => .inl (by rw [List.mem_singleton.1 hy]; exact HgF.out))).trans hC5 (fun y hy => .inl (Hsub4.out y hy))⟩, by simp [intOf]; omega⟩
    · go_wp2
      go_ret
      have e : k = xs.length := by omega
      subst e
      rw [List.take_length] at hSk ⊢
      exact ⟨rfl, by rwa [List.drop_length, List.append_nil] at hSk, hC⟩
theorem markDatabase_d {v : Value} {d : Dbd} {F : List Nat} {k0 : Int} {w : World} (hb : BDb d) (h : sDb w [v] d F) (hN : F.Nodup) (h0 : 0 ≤ k0) (hk0 : k0 ≤ 80000000000) :
    Calls Tryz.prog 17 #[.agg #[v], .int .i64 k0] w fun e w' => ∃ k', e = .returned (.int .i64 k') ∧ Hid ((mkN mkTb k0 d).2 = k') ∧ k0 ≤ k' ∧ k' ≤ k0 + 4000000 ∧ sDb w' [v] (mkN mkTb k0 d).1 F ∧ Chg F w w' := by
  have hm := mkTb_tot d
  have hb1 := hb.1.1
  have hb2 := hb.1.2
  have hs := mkTb_sum k0 d
  obtain ⟨A, c, rfl⟩ := sDb_form h
  obtain ⟨v', e, hS⟩ := h
  injection e with e
  subst e
  have hk1 : k0 + ((d.map lTb).sum : Nat) ≤ 85000000000 := by omega
  have Hs := Lib.hid hs
  clear hs
  go_enter Tryz.func17, Tryz.ntmps17
  go_upto_region 1 with fail
  refine wp_name ?_
  intro W hW
  have xW : ∃ y, W = ext w y := by rw [hW.out]; exact (by refine x'z ?_; repeat (with_reducible (first | exact x'a _ _ | exact x'b _ | exact x'c (by assumption) | refine x'd ?_ (by assumption) | refine x'e ?_ _ | refine x'f ?_ _ | refine x'g ?_ | refine x'h ?_ ?_ _ | refine x'i ?_ _ | refine x'j ?_ | refine x'k ?_ _ | refine x'l ?_ _ _ | refine x'm ?_ | assumption | (refine x'n ?_; omega) | omega)))
  have PW : BoxAt W w.heap.size #[.slice A d.length c] := by rw [hW.out]; exact (by repeat (with_reducible (first | assumption | exact BoxAt.new _ _ _ | apply BoxAt.set10 | apply BoxAt.set2 | refine BoxAt.set2' ?_ (by omega) | apply BoxAt.setP0 | apply BoxAt.setP1 | refine BoxAt.setO ?_ (by omega) | refine BoxAt.alloc ?_ _ | refine BoxAt.drew ?_ | refine BoxAt.toExt ?_ (by assumption))))
  obtain ⟨lp, p0, fp⟩ := bx1 PW
  clear hW
  go_wp2_with (go_at_call 47; refine (markTableS_any hb (hS.toExt xW) hN h0 hk1).mono ?_; rintro e w1 ⟨rfl, hS1, hC1⟩)
  go_ret
  exact ⟨_, rfl, Lib.hid rfl, by rw [Hs.out]; omega, by rw [Hs.out]; omega, ⟨_, rfl, hS1⟩, (Chg.ofExt xW).trans hC1 (fun y hy => .inl hy)⟩
end Go.Proofs.YtfigcfajkilhiaaGreat
namespace Go.Proofs.YtfigcfajkilhiaaGreat
open Go.RowKit
theorem mem_avars : ∀ (f k : Nat) (xs : List Int) (n : Int), n ∈ avars f k xs ↔ (k : Int) ≤ n ∧ n < k + f ∧ n ∈ xs
  | 0, k, xs, n => by simp [avars]; omega
  | f + 1, k, xs, n => by
    have ih := mem_avars f (k + 1) xs n
    unfold avars
    split
    · rename_i h
      rw [List.mem_cons, ih]
      constructor
      · rintro (rfl | ⟨h1, h2, h3⟩)
        · exact ⟨by omega, by omega, h⟩
        · exact ⟨by omega, by omega, h3⟩
      · rintro ⟨h1, h2, h3⟩
        by_cases e : n = k
        · exact .inl e
        · exact .inr ⟨by omega, by omega, h3⟩
    · rename_i h
      rw [ih]
      constructor
      · rintro ⟨h1, h2, h3⟩
        exact ⟨by omega, by omega, h3⟩
      · rintro ⟨h1, h2, h3⟩
        refine ⟨?_, by omega, h3⟩
        have : n ≠ k := by rintro rfl; exact h h3
        omega
end Go.Proofs.YtfigcfajkilhiaaGreat
namespace Go.Proofs.YtfigcfajkilhiaaGreat
open Go.RowKit
def insK (n : Int) : List Int → Nat
  | [] => 0
  | x :: xs => if x < n then insK n xs + 1 else 0
def insS (n : Int) (l : List Int) : List Int := if (l.drop (insK n l)).head? = some n then l else l.take (insK n l) ++ [n] ++ l.drop (insK n l)
def uniL (a b : List Int) : List Int := b.foldl (fun acc n => insS n acc) a
theorem insK_step {n : Int} {l : List Int} {k : Nat} (h : k < l.length) (hx : l[k] < n) : k + insK n (l.drop k) = k + 1 + insK n (l.drop (k + 1)) := by
  rw [List.drop_eq_getElem_cons h, insK, if_pos hx]
  omega
theorem insK_hit {n : Int} {l : List Int} {k : Nat} (h : k < l.length) (hx : ¬ l[k] < n) : k + insK n (l.drop k) = k := by
  rw [List.drop_eq_getElem_cons h, insK, if_neg hx]
  omega
theorem insK_end {n : Int} {l : List Int} {k : Nat} (h : ¬ k < l.length) : k + insK n (l.drop k) = k := by
  rw [List.drop_eq_nil_of_le (by omega), insK]
  omega
theorem uniL_step {a b : List Int} {k : Nat} (h : k < b.length) : uniL a (b.take (k + 1)) = insS b[k] (uniL a (b.take k)) := by
  unfold uniL
  rw [List.take_succ_eq_append_getElem h, List.foldl_append]
  rfl
def insR (n : Int) : List Int → List Int
  | [] => [n]
  | x :: xs => if x < n then x :: insR n xs else if x = n then x :: xs else n :: x :: xs
theorem insS_eq (n : Int) : ∀ l, insS n l = insR n l
  | [] => rfl
  | x :: xs => by
    have ih := insS_eq n xs
    unfold insS at ih
    unfold insS insK insR
    by_cases h : x < n
    · rw [if_pos h, if_pos h, List.drop_succ_cons, List.take_succ_cons, ← ih]
      split <;> simp
    · rw [if_neg h, if_neg h]
      by_cases h2 : x = n
      · simp [h2]
      · simp [h2]
theorem insS_length (n : Int) (l : List Int) : (insS n l).length ≤ l.length + 1 := by
  unfold insS
  split
  · omega
  · simp only [List.length_append, List.length_take, List.length_drop, List.length_cons, List.length_nil]; omega
theorem uniL_length : ∀ (b a : List Int), (uniL a b).length ≤ a.length + b.length
  | [], a => by simp [uniL]
  | x :: b, a => by
    have h1 := uniL_length b (insS x a)
    have h2 := insS_length x a
    have e : uniL a (x :: b) = uniL (insS x a) b := rfl
    rw [e, List.length_cons]
    omega
def Asc (l : List Int) : Prop := l.Pairwise (· < ·)
theorem mem_insR {n x : Int} : ∀ {l : List Int}, x ∈ insR n l ↔ x = n ∨ x ∈ l
  | [] => by simp [insR]
  | y :: ys => by
    unfold insR
    split
    · rw [List.mem_cons, mem_insR (l := ys), List.mem_cons]
      constructor
      · rintro (h | h | h)
        · exact .inr (.inl h)
        · exact .inl h
        · exact .inr (.inr h)
      · rintro (h | h | h)
        · exact .inr (.inl h)
        · exact .inl h
        · exact .inr (.inr h)
    · split
      · rename_i h; subst h
        simp
      · simp
theorem asc_insR {n : Int} : ∀ {l : List Int}, Asc l → Asc (insR n l)
  | [], _ => by simp [insR, Asc]
  | y :: ys, h => by
    have h' := List.pairwise_cons.1 h
    unfold insR
    split
    · rename_i hy
      refine List.pairwise_cons.2 ⟨fun z hz => ?_, asc_insR h'.2⟩
      rcases mem_insR.1 hz with e | e
      · omega
      · exact h'.1 z e
    · split
      · exact h
      · refine List.pairwise_cons.2 ⟨fun z hz => ?_, h⟩
        rcases List.mem_cons.1 hz with e | e
        · omega
        · have := h'.1 z e
          omega
theorem mem_insS {n x : Int} {l : List Int} : x ∈ insS n l ↔ x = n ∨ x ∈ l := by rw [insS_eq]; exact mem_insR
theorem asc_insS {n : Int} {l : List Int} (h : Asc l) : Asc (insS n l) := by rw [insS_eq]; exact asc_insR h
theorem mem_uniL {x : Int} : ∀ {b a : List Int}, x ∈ uniL a b ↔ x ∈ a ∨ x ∈ b
  | [], a => by simp [uniL]
  | y :: b, a => by
    have e : uniL a (y :: b) = uniL (insS y a) b := rfl
    rw [e, mem_uniL, mem_insS, List.mem_cons]
    constructor
    · rintro ((h | h) | h)
      · exact .inr (.inl h)
      · exact .inl h
      · exact .inr (.inr h)
    · rintro (h | h | h)
      · exact .inl (.inr h)
      · exact .inl (.inl h)
      · exact .inr h
theorem asc_uniL : ∀ {b a : List Int}, Asc a → Asc (uniL a b)
  | [], _, h => h
  | y :: b, a, h => by
    have e : uniL a (y :: b) = uniL (insS y a) b := rfl
    rw [e]
    exact asc_uniL (asc_insS h)
theorem asc_nil : Asc [] := List.Pairwise.nil
theorem asc_ext : ∀ {a b : List Int}, Asc a → Asc b → (∀ x, x ∈ a ↔ x ∈ b) → a = b
  | [], [], _, _, _ => rfl
  | [], y :: b, _, _, h => by have := (h y).2 (by simp); simp at this
  | x :: a, [], _, _, h => by have := (h x).1 (by simp); simp at this
  | x :: a, y :: b, ha, hb, h => by
    have ha' := List.pairwise_cons.1 ha
    have hb' := List.pairwise_cons.1 hb
    have hxy : x = y := by
      have h1 := (h x).1 (by simp)
      have h2 := (h y).2 (by simp)
      rcases List.mem_cons.1 h1 with e | e
      · exact e
      · rcases List.mem_cons.1 h2 with e2 | e2
        · exact e2.symm
        · have := hb'.1 x e
          have := ha'.1 y e2
          omega
    subst hxy
    congr 1
    refine asc_ext ha'.2 hb'.2 fun z => ?_
    have hz := h z
    rw [List.mem_cons, List.mem_cons] at hz
    constructor
    · intro hm
      rcases hz.1 (.inr hm) with e | e
      · have := ha'.1 z hm; omega
      · exact e
    · intro hm
      rcases hz.2 (.inr hm) with e | e
      · have := hb'.1 z hm; omega
      · exact e
theorem asc_avars : ∀ (f k : Nat) (xs : List Int), Asc (avars f k xs)
  | 0, _, _ => asc_nil
  | f + 1, k, xs => by
    have ih := asc_avars f (k + 1) xs
    unfold avars
    split
    · refine List.pairwise_cons.2 ⟨fun z hz => ?_, ih⟩
      have := (mem_avars f (k + 1) xs z).1 hz
      omega
    · exact ih
def selF (p : Int → Bool) : Nat → Nat → List Int
  | 0, _ => []
  | f + 1, k => if p k = true then (k : Int) :: selF p f (k + 1) else selF p f (k + 1)
theorem selF_step {p : Int → Bool} {n k : Nat} (h : k < n) : selF p (n - k) k = if p k = true then (k : Int) :: selF p (n - (k + 1)) (k + 1) else selF p (n - (k + 1)) (k + 1) := by
  rw [show n - k = (n - (k + 1)) + 1 by omega, selF]
theorem mem_selF {p : Int → Bool} {x : Int} : ∀ (f k : Nat), x ∈ selF p f k ↔ (k : Int) ≤ x ∧ x < k + f ∧ p x = true
  | 0, k => by simp [selF]; omega
  | f + 1, k => by
    have ih := mem_selF (p := p) (x := x) f (k + 1)
    unfold selF
    split
    · rename_i h
      rw [List.mem_cons, ih]
      constructor
      · rintro (rfl | ⟨h1, h2, h3⟩)
        · exact ⟨by omega, by omega, h⟩
        · exact ⟨by omega, by omega, h3⟩
      · rintro ⟨h1, h2, h3⟩
        by_cases e : x = k
        · exact .inl e
        · exact .inr ⟨by omega, by omega, h3⟩
    · rename_i h
      rw [ih]
      constructor
      · rintro ⟨h1, h2, h3⟩
        exact ⟨by omega, by omega, h3⟩
      · rintro ⟨h1, h2, h3⟩
        refine ⟨?_, by omega, h3⟩
        have : x ≠ k := by rintro rfl; exact h h3
        omega
theorem asc_selF {p : Int → Bool} : ∀ (f k : Nat), Asc (selF p f k)
  | 0, _ => asc_nil
  | f + 1, k => by
    have ih := asc_selF (p := p) f (k + 1)
    unfold selF
    split
    · refine List.pairwise_cons.2 ⟨fun z hz => ?_, ih⟩
      have := (mem_selF f (k + 1)).1 hz
      omega
    · exact ih
end Go.Proofs.YtfigcfajkilhiaaGreat
namespace Go.Proofs.YtfigcfajkilhiaaGreat
open Go.RowKit
theorem iof_get {v : Int} : ∀ {k : Nat} {va : List Int}, v ∈ va → ∃ i : Nat, iof k v va = ((k + i : Nat) : Int) ∧ va[i]? = some v
  | _, [], h => by simp at h
  | k, x :: va, h => by
    rw [iof]
    split
    · rename_i e
      subst e
      exact ⟨0, by simp, by simp⟩
    · rename_i e
      rcases List.mem_cons.1 h with h | h
      · exact absurd h.symm e
      · obtain ⟨i, h1, h2⟩ := iof_get (k := k + 1) h
        exact ⟨i + 1, by rw [h1]; congr 1; omega, by simpa using h2⟩
theorem iof_nodup : ∀ {k : Nat} {va : List Int} {i : Nat} (_ : va.Nodup) (h : i < va.length), iof k va[i] va = ((k + i : Nat) : Int)
  | k, x :: va, 0, _, _ => by rw [iof]; simp
  | k, x :: va, i + 1, hn, h => by
    rw [List.nodup_cons] at hn
    rw [iof, if_neg, List.getElem_cons_succ, iof_nodup hn.2]
    · congr 1; omega
    · rintro e
      rw [List.getElem_cons_succ] at e
      exact hn.1 (e ▸ List.getElem_mem _)
def valAt (va r : List Int) (v : Int) : Int := r.getD (iof 0 v va).toNat 0
theorem valAt_map {va : List Int} {g : Int → Int} {v : Int} (h : v ∈ va) : valAt va (va.map g) v = g v := by
  obtain ⟨i, h1, h2⟩ := iof_get (k := 0) h
  unfold valAt
  rw [h1, Int.toNat_natCast, Nat.zero_add, List.getD_eq_getElem?_getD, List.getElem?_map, h2]
  rfl
theorem map_valAt {va r : List Int} (hn : va.Nodup) (hl : r.length = va.length) : va.map (valAt va r) = r := by
  apply List.ext_getElem
  · simp [hl]
  · intro i h1 h2
    rw [List.getElem_map]
    unfold valAt
    rw [iof_nodup hn (by simpa using h1), Int.toNat_natCast, Nat.zero_add, getDl _ _ h2]
def agreeB (va r vb s : List Int) : Bool := va.all fun v => !decide (v ∈ vb) || decide (valAt va r v = valAt vb s v)
theorem agreeB_iff {va r vb s : List Int} : agreeB va r vb s = true ↔ ∀ v ∈ va, v ∈ vb → valAt va r v = valAt vb s v := by
  unfold agreeB
  simp only [List.all_eq_true, Bool.or_eq_true, Bool.not_eq_true', decide_eq_false_iff_not, decide_eq_true_eq]
  constructor
  · intro h v h1 h2
    rcases h v h1 with h | h
    · exact absurd h2 h
    · exact h
  · intro h v h1
    by_cases h2 : v ∈ vb
    · exact .inr (h v h1 h2)
    · exact .inl h2
def glueR (un va r vb s : List Int) : List Int := un.map fun v => if v ∈ va then valAt va r v else valAt vb s v
def joinL (un va : List Int) (ra : List (List Int)) (vb : List Int) (rb : List (List Int)) : List (List Int) :=
  ra.flatMap fun r => (rb.filter fun s => agreeB va r vb s).map fun s => glueR un va r vb s
def semiL (va : List Int) (ra : List (List Int)) (vb : List Int) (rb : List (List Int)) : List (List Int) := ra.filter fun r => rb.any fun s => agreeB va r vb s
theorem mem_semiL {va vb r : List Int} {ra rb : List (List Int)} (ha : va.Nodup) (hb : vb.Nodup) (hra : ∀ r ∈ ra, r.length = va.length) (hrb : ∀ s ∈ rb, s.length = vb.length) :
    r ∈ semiL va ra vb rb ↔ r ∈ ra ∧ ∃ g : Int → Int, va.map g = r ∧ vb.map g ∈ rb := by
  unfold semiL
  rw [List.mem_filter, List.any_eq_true]
  refine and_congr_right fun hr => ?_
  constructor
  · rintro ⟨s, hs, hag⟩
    rw [agreeB_iff] at hag
    refine ⟨fun v => if v ∈ va then valAt va r v else valAt vb s v, ?_, ?_⟩
    · rw [List.map_congr_left (g := valAt va r) (fun v hv => by rw [if_pos hv]), map_valAt ha (hra r hr)]
    · rw [List.map_congr_left (g := valAt vb s) (fun v hv => ?_), map_valAt hb (hrb s hs)]
      · exact hs
      · split
        · rename_i h; exact hag v h hv
        · rfl
  · rintro ⟨g, rfl, h2⟩
    refine ⟨_, h2, agreeB_iff.2 fun v h3 h4 => ?_⟩
    rw [valAt_map h3, valAt_map h4]
theorem mem_joinL {un va vb t : List Int} {ra rb : List (List Int)} (ha : va.Nodup) (hb : vb.Nodup) (hra : ∀ r ∈ ra, r.length = va.length) (hrb : ∀ s ∈ rb, s.length = vb.length) (hu : ∀ v ∈ un, v ∈ va ∨ v ∈ vb) :
    t ∈ joinL un va ra vb rb ↔ ∃ g : Int → Int, un.map g = t ∧ va.map g ∈ ra ∧ vb.map g ∈ rb := by
  unfold joinL
  simp only [List.mem_flatMap, List.mem_map, List.mem_filter]
  constructor
  · rintro ⟨r, hr, s, ⟨hs, hag⟩, rfl⟩
    rw [agreeB_iff] at hag
    refine ⟨fun v => if v ∈ va then valAt va r v else valAt vb s v, rfl, ?_, ?_⟩
    · rw [List.map_congr_left (g := valAt va r) (fun v hv => by rw [if_pos hv]), map_valAt ha (hra r hr)]
      exact hr
    · rw [List.map_congr_left (g := valAt vb s) (fun v hv => ?_), map_valAt hb (hrb s hs)]
      · exact hs
      · split
        · rename_i h; exact hag v h hv
        · rfl
  · rintro ⟨g, rfl, h1, h2⟩
    refine ⟨_, h1, _, ⟨h2, agreeB_iff.2 fun v h3 h4 => by rw [valAt_map h3, valAt_map h4]⟩, ?_⟩
    unfold glueR
    refine List.map_congr_left fun v hv => ?_
    split
    · rename_i h; exact valAt_map h
    · rename_i h
      rcases hu v hv with k | k
      · exact absurd k h
      · exact valAt_map k
theorem glue_left {un va r vb s : List Int} (ha : va.Nodup) (hr : r.length = va.length) (hu : ∀ v ∈ va, v ∈ un) : va.map (valAt un (glueR un va r vb s)) = r := by
  unfold glueR
  rw [List.map_congr_left (g := valAt va r) (fun v hv => by rw [valAt_map (hu v hv), if_pos hv]), map_valAt ha hr]
theorem glue_right {un va r vb s : List Int} (hb : vb.Nodup) (hs : s.length = vb.length) (hu : ∀ v ∈ vb, v ∈ un) (hag : agreeB va r vb s = true) : vb.map (valAt un (glueR un va r vb s)) = s := by
  unfold glueR
  rw [List.map_congr_left (g := valAt vb s) (fun v hv => ?_), map_valAt hb hs]
  rw [valAt_map (hu v hv)]
  split
  · rename_i h; exact agreeB_iff.1 hag v h hv
  · rfl
theorem joinL_nodup {un va vb : List Int} {ra rb : List (List Int)} (ha : va.Nodup) (hb : vb.Nodup) (hra : ∀ r ∈ ra, r.length = va.length) (hrb : ∀ s ∈ rb, s.length = vb.length) (hua : ∀ v ∈ va, v ∈ un) (hub : ∀ v ∈ vb, v ∈ un)
    (na : ra.Nodup) (nb : rb.Nodup) : (joinL un va ra vb rb).Nodup := by
  unfold joinL
  refine List.pairwise_flatMap.2 ⟨fun r hr => ?_, ?_⟩
  · refine List.pairwise_map.2 ?_
    refine List.Pairwise.imp_of_mem (R := (· ≠ ·)) (fun {s s'} hs hs' hne e => ?_) (List.Pairwise.filter _ nb)
    rw [List.mem_filter] at hs hs'
    apply hne
    rw [← glue_right (un := un) (va := va) (r := r) hb (hrb s hs.1) hub hs.2, e, glue_right hb (hrb s' hs'.1) hub hs'.2]
  · refine List.Pairwise.imp_of_mem (R := (· ≠ ·)) (fun {r r'} hr hr' hne _ hx y hy e => ?_) na
    rw [List.mem_map] at hx hy
    obtain ⟨s, _, rfl⟩ := hx
    obtain ⟨s', _, rfl⟩ := hy
    apply hne
    rw [← glue_left (un := un) (vb := vb) (s := s) ha (hra r hr) hua, e, glue_left ha (hra r' hr') hua]
theorem nodup_sortR {l : List (List Int)} (h : l.Nodup) : (sortR l).length = l.length :=
  List.Perm.length_eq ((List.perm_ext_iff_of_nodup (ascR_nodup (asc_sortR l)) h).2 fun _ => mem_sortR)
theorem asc_nodup {l : List Int} (h : Asc l) : l.Nodup := List.Pairwise.imp (fun {_ _} h => by omega) h
structure VrOk (d : VRd) : Prop where
  asc : Asc d.1
  lo : ∀ v ∈ d.1, 0 ≤ v ∧ v ≤ 4
  len : d.1.length ≤ 5
  ar : d.2.1 = (d.1.length : Int)
  cnt : d.2.2.length ≤ 4000
  rl : ∀ r ∈ d.2.2, r.length = d.1.length
  rv : ∀ r ∈ d.2.2, rowV r = true
  ra : AscR d.2.2
theorem vars1_iff {xs : List Int} : varsB xs = true ↔ Asc xs ∧ ∀ v ∈ xs, 0 ≤ v ∧ v ≤ 4 := by
  unfold varsB
  rw [allN_true]
  constructor
  · intro h
    have hv : ∀ i (hi : i < xs.length), 0 ≤ xs[i] ∧ xs[i] ≤ 4 := fun i hi => by
      have := h i (by omega) (by omega)
      unfold vars1 at this
      rw [getDl _ _ hi, Bool.and_eq_true] at this
      exact inB_t this.1
    refine ⟨?_, fun v hv2 => by obtain ⟨i, hi, rfl⟩ := List.getElem_of_mem hv2; exact hv i hi⟩
    have hn : ∀ i (hi : i + 1 < xs.length), xs[i] < xs[i + 1] := fun i hi => by
      have := h (i + 1) (by omega) (by omega)
      unfold vars1 at this
      rw [getDl _ _ hi, show i + 1 - 1 = i by omega, getDl _ _ (show i < xs.length by omega), Bool.and_eq_true] at this
      simpa using this.2
    unfold Asc
    rw [List.pairwise_iff_getElem]
    intro i j hi hj hij
    obtain ⟨d, rfl⟩ : ∃ d, j = i + 1 + d := ⟨j - i - 1, by omega⟩
    induction d with
    | zero => exact hn i hj
    | succ d ih =>
      have h1 := ih (by omega) (by omega)
      have h2 := hn (i + 1 + d) hj
      exact Int.lt_trans h1 h2
  · rintro ⟨h1, h2⟩ i _ hi
    rw [Nat.zero_add] at hi
    unfold vars1
    have h3 := h2 _ (List.getElem_mem hi)
    rw [getDl _ _ hi, Bool.and_eq_true]
    refine ⟨by simp [inB, h3], ?_⟩
    rcases Nat.eq_zero_or_pos i with h4 | h4
    · simp [h4]
    · rw [getDl _ _ (show i - 1 < xs.length by omega)]
      have := List.pairwise_iff_getElem.1 h1 (i - 1) i (by omega) hi (by omega)
      simp [this]
theorem asc_bd : ∀ {xs : List Int} {lo hi : Int}, Asc xs → (∀ v ∈ xs, lo ≤ v ∧ v ≤ hi) → lo ≤ hi + 1 → (xs.length : Int) ≤ hi + 1 - lo
  | [], lo, hi, _, _, h => by simp; omega
  | x :: xs, lo, hi, h, hb, _ => by
    unfold Asc at h
    rw [List.pairwise_cons] at h
    have hx := hb x (by simp)
    have := asc_bd (xs := xs) (lo := x + 1) (hi := hi) h.2 (fun v hv => ⟨by have := h.1 v hv; omega, (hb v (by simp [hv])).2⟩) (by omega)
    simp only [List.length_cons]
    omega
theorem asc_len5 {xs : List Int} (h : Asc xs) (hb : ∀ v ∈ xs, 0 ≤ v ∧ v ≤ 4) : xs.length ≤ 5 := by
  have := asc_bd h hb (by omega)
  omega
theorem vrB_iff {d : VRd} : vrB d = true ↔ VrOk d := by
  unfold vrB
  rw [Bool.and_eq_true, Bool.and_eq_true, vars1_iff, rowsB_iff, decide_eq_true_eq]
  constructor
  · rintro ⟨⟨⟨h1, h2⟩, h3, h4, h5, h6, h7⟩, h8⟩
    exact ⟨h1, h2, by omega, h8, h5, fun r hr => by have := (h6 r hr).1; omega, fun r hr => (h6 r hr).2, h7⟩
  · intro h
    have := h.len
    exact ⟨⟨⟨h.asc, h.lo⟩, by rw [h.ar]; omega, by rw [h.ar]; omega, h.cnt, fun r hr => ⟨by rw [h.ar, h.rl r hr], h.rv r hr⟩, h.ra⟩, h.ar⟩
def semiR (a b : VRd) : Option VRd := if vrB a = true ∧ vrB b = true then some (a.1, a.2.1, semiL a.1 a.2.2 b.1 b.2.2) else none
def joinVR (a b : VRd) : VRd := (uniL a.1 b.1, ((uniL a.1 b.1).length : Int), sortR (joinL (uniL a.1 b.1) a.1 a.2.2 b.1 b.2.2))
def joinR (a b : VRd) : Option VRd := if (vrB a = true ∧ vrB b = true) ∧ (joinL (uniL a.1 b.1) a.1 a.2.2 b.1 b.2.2).length ≤ 4000 then some (joinVR a b) else none
theorem semi_ok {a b d : VRd} (h : semiR a b = some d) : VrOk d := by
  unfold semiR at h
  split at h
  · rename_i hh
    injection h with h
    subst h
    have ha := vrB_iff.1 hh.1
    have hs : ∀ r ∈ semiL a.1 a.2.2 b.1 b.2.2, r ∈ a.2.2 := fun r hr => (List.mem_filter.1 hr).1
    exact ⟨ha.asc, ha.lo, ha.len, ha.ar, Nat.le_trans (List.length_filter_le _ _) ha.cnt, fun r hr => ha.rl r (hs r hr), fun r hr => ha.rv r (hs r hr), ascR_filter _ ha.ra⟩
  · cases h
theorem rowV_iff {r : List Int} : rowV r = true ↔ ∀ x ∈ r, 0 ≤ x ∧ x ≤ 99 := by
  unfold rowV
  rw [List.all_eq_true]
  constructor
  · exact fun h x hx => inB_t (h x hx)
  · exact fun h x hx => by simp [inB, h x hx]
theorem valAt_mem {va r : List Int} {v : Int} (h : v ∈ va) (hl : r.length = va.length) : valAt va r v ∈ r := by
  obtain ⟨i, h1, h2⟩ := iof_get (k := 0) h
  unfold valAt
  have hi : i < va.length := (List.getElem?_eq_some_iff.1 h2).1
  rw [h1, Int.toNat_natCast, Nat.zero_add, getDl _ _ (by omega)]
  exact List.getElem_mem _
theorem glue_valid {un va r vb s : List Int} (hu : ∀ v ∈ un, v ∈ va ∨ v ∈ vb) (hr : r.length = va.length) (hs : s.length = vb.length) (vr : rowV r = true) (vs : rowV s = true) : rowV (glueR un va r vb s) = true := by
  rw [rowV_iff] at vr vs ⊢
  intro x hx
  unfold glueR at hx
  obtain ⟨v, hv, rfl⟩ := List.mem_map.1 hx
  split
  · rename_i h; exact vr _ (valAt_mem h hr)
  · rename_i h
    rcases hu v hv with k | k
    · exact absurd k h
    · exact vs _ (valAt_mem k hs)
theorem join_mem {a b : VRd} (ha : VrOk a) (hb : VrOk b) {t : List Int} : t ∈ joinL (uniL a.1 b.1) a.1 a.2.2 b.1 b.2.2 ↔ ∃ g : Int → Int, (uniL a.1 b.1).map g = t ∧ a.1.map g ∈ a.2.2 ∧ b.1.map g ∈ b.2.2 :=
  mem_joinL (asc_nodup ha.asc) (asc_nodup hb.asc) ha.rl hb.rl fun _ h => mem_uniL.1 h
theorem join_rows {a b : VRd} (ha : VrOk a) (hb : VrOk b) : ∀ t ∈ joinL (uniL a.1 b.1) a.1 a.2.2 b.1 b.2.2, t.length = (uniL a.1 b.1).length ∧ rowV t = true := fun t ht => by
  unfold joinL at ht
  simp only [List.mem_flatMap, List.mem_map, List.mem_filter] at ht
  obtain ⟨r, hr, s, ⟨hs, _⟩, rfl⟩ := ht
  exact ⟨by simp [glueR], glue_valid (fun _ h => mem_uniL.1 h) (ha.rl r hr) (hb.rl s hs) (ha.rv r hr) (hb.rv s hs)⟩
theorem uni_bd {a b : VRd} (ha : VrOk a) (hb : VrOk b) : ∀ v ∈ uniL a.1 b.1, 0 ≤ v ∧ v ≤ 4 := fun v hv => by
  rcases mem_uniL.1 hv with h | h
  · exact ha.lo v h
  · exact hb.lo v h
theorem join_nodup {a b : VRd} (ha : VrOk a) (hb : VrOk b) : (joinL (uniL a.1 b.1) a.1 a.2.2 b.1 b.2.2).Nodup :=
  joinL_nodup (asc_nodup ha.asc) (asc_nodup hb.asc) ha.rl hb.rl (fun _ h => mem_uniL.2 (.inl h)) (fun _ h => mem_uniL.2 (.inr h)) (ascR_nodup ha.ra) (ascR_nodup hb.ra)
theorem join_ok {a b d : VRd} (h : joinR a b = some d) : VrOk d := by
  unfold joinR at h
  split at h
  · rename_i hh
    obtain ⟨⟨h1, h2⟩, h3⟩ := hh
    injection h with h
    subst h
    have ha := vrB_iff.1 h1
    have hb := vrB_iff.1 h2
    have hA := asc_uniL (b := b.1) ha.asc
    exact ⟨hA, uni_bd ha hb, asc_len5 hA (uni_bd ha hb), rfl, Nat.le_trans (sortR_length _) h3, fun r hr => (join_rows ha hb r (mem_sortR.1 hr)).1, fun r hr => (join_rows ha hb r (mem_sortR.1 hr)).2, asc_sortR _⟩
  · cases h
theorem join_new {a b : VRd} (h : vrB a = true ∧ vrB b = true) : newR ((uniL a.1 b.1).length : Int) (joinL (uniL a.1 b.1) a.1 a.2.2 b.1 b.2.2) = (joinR a b).map (·.2) := by
  have ha := vrB_iff.1 h.1
  have hb := vrB_iff.1 h.2
  have hl := nodup_sortR (join_nodup ha hb)
  have h5 := asc_len5 (asc_uniL (b := b.1) ha.asc) (uni_bd ha hb)
  by_cases hc : (joinL (uniL a.1 b.1) a.1 a.2.2 b.1 b.2.2).length ≤ 4000
  · unfold joinR
    rw [if_pos ⟨h, hc⟩, newR_some (rowsIn_iff.2 fun r hr => by have := join_rows ha hb r hr; exact ⟨by rw [this.1], this.2⟩) (by omega) (by omega) (by omega)]
    rfl
  · unfold joinR
    rw [if_neg (fun h => hc h.2), Option.map_none, newR_none]
    rintro ⟨_, h2⟩
    have := (rowsB_iff.1 h2).2.2.1
    omega
end Go.Proofs.YtfigcfajkilhiaaGreat
namespace Go.Proofs.YtfigcfajkilhiaaGreat
open Go.RowKit
inductive Elim (par : Nat → Int) : List (Nat × Nat) → Nat → List Nat → Prop
  | nil {r : Nat} : par r = -1 → Elim par [] r [r]
  | cons {L : List (Nat × Nat)} {r c p : Nat} {N : List Nat} : Elim par L r N → c ∉ N → p ∈ N → par c = (p : Int) → Elim par ((c, p) :: L) r (c :: N)
inductive Ear (V : Nat → List Int) : List (Nat × Nat) → Nat → List Nat → Prop
  | nil {r : Nat} : Ear V [] r [r]
  | cons {L : List (Nat × Nat)} {r c p : Nat} {N : List Nat} : Ear V L r N → c ∉ N → p ∈ N → (∀ v ∈ V c, ∀ j ∈ N, v ∈ V j → v ∈ V p) → Ear V ((c, p) :: L) r (c :: N)
def TopOf (V : Nat → List Int) (par : Nat → Int) (v : Int) (t : Nat) : Prop := v ∈ V t ∧ (par t = -1 ∨ ∀ p : Nat, par t = (p : Int) → v ∉ V p)
theorem Elim.top {V : Nat → List Int} {par : Nat → Int} {v : Int} {L : List (Nat × Nat)} {r : Nat} {N : List Nat} (h : Elim par L r N) : ∀ j ∈ N, v ∈ V j → ∃ t ∈ N, TopOf V par v t := by
  induction h with
  | nil h => 
    intro j hj hv
    obtain rfl := List.mem_singleton.1 hj
    exact ⟨j, by simp, hv, .inl h⟩
  | @cons L r c p N _ h1 h2 h3 ih =>
    have hN : ∀ j ∈ N, v ∈ V j → ∃ t ∈ c :: N, TopOf V par v t := fun j hj hv => by
      obtain ⟨t, ht, h⟩ := ih j hj hv
      exact ⟨t, by simp [ht], h⟩
    intro j hj hv
    rcases List.mem_cons.1 hj with e | e
    · subst e
      by_cases hp : v ∈ V p
      · exact hN p h2 hp
      · refine ⟨j, by simp, hv, .inr fun q hq => ?_⟩
        obtain rfl : q = p := by omega
        exact hp
    · exact hN j e hv
theorem Elim.ear {V : Nat → List Int} {par : Nat → Int} {L : List (Nat × Nat)} {r : Nat} {N : List Nat} (h : Elim par L r N) : (∀ v, ∀ s ∈ N, ∀ t ∈ N, TopOf V par v s → TopOf V par v t → s = t) → Ear V L r N := by
  induction h with
  | nil _ => exact fun _ => .nil
  | @cons L r c p N h0 h1 h2 h3 ih =>
    intro hu
    refine .cons (ih fun v s hs t ht => hu v s (by simp [hs]) t (by simp [ht])) h1 h2 fun v hv j hj hvj => ?_
    by_cases hp : v ∈ V p
    · exact hp
    · exfalso
      obtain ⟨t, ht, hT⟩ := h0.top j hj hvj
      have := hu v c (by simp) t (by simp [ht]) ⟨hv, .inr fun q hq => by obtain rfl : q = p := by omega
                                                                         exact hp⟩ hT
      exact h1 (this ▸ ht)
theorem Ear.root {V : Nat → List Int} {L : List (Nat × Nat)} {r : Nat} {N : List Nat} (h : Ear V L r N) : r ∈ N := by
  induction h with
  | nil => simp
  | cons _ _ _ _ ih => simp [ih]
theorem Ear.mem {V : Nat → List Int} {L : List (Nat × Nat)} {r : Nat} {N : List Nat} (h : Ear V L r N) : ∀ x ∈ L, x.1 ∈ N ∧ x.2 ∈ N ∧ x.1 ≠ x.2 := by
  induction h with
  | nil => simp
  | @cons L r c p N _ h1 h2 _ ih =>
    intro x hx
    rcases List.mem_cons.1 hx with e | e
    · subst e
      exact ⟨by simp, by simp [h2], fun e => h1 (by simp only at e; rw [e]; exact h2)⟩
    · have := ih x e
      exact ⟨by simp [this], by simp [this], this.2.2⟩
abbrev RowsOf := Nat → List (List Int)
def semiAt (V : Nat → List Int) (S : RowsOf) (p i : Nat) : RowsOf := fun j => if j = p then semiL (V p) (S p) (V i) (S i) else S j
def fullOps : List (Nat × Nat) → List (Nat × Nat)
  | [] => []
  | (c, p) :: L => (p, c) :: (fullOps L ++ [(c, p)])
def runOps (V : Nat → List Int) (S : RowsOf) (l : List (Nat × Nat)) : RowsOf := l.foldl (fun S x => semiAt V S x.1 x.2) S
theorem fullOps_eq (L : List (Nat × Nat)) : fullOps L = L.map (fun x => (x.2, x.1)) ++ L.reverse := by
  induction L with
  | nil => rfl
  | cons x L ih => obtain ⟨c, p⟩ := x; rw [fullOps, ih]; simp
theorem runOps_cons (V : Nat → List Int) (S : RowsOf) (p i : Nat) (l : List (Nat × Nat)) : runOps V S ((p, i) :: l) = runOps V (semiAt V S p i) l := rfl
theorem runOps_snoc (V : Nat → List Int) (S : RowsOf) (p i : Nat) (l : List (Nat × Nat)) : runOps V S (l ++ [(p, i)]) = semiAt V (runOps V S l) p i := by simp [runOps]
theorem runOps_far (V : Nat → List Int) {c : Nat} : ∀ (l : List (Nat × Nat)) (S : RowsOf), (∀ x ∈ l, x.1 ≠ c) → runOps V S l c = S c
  | [], _, _ => rfl
  | (p, i) :: l, S, h => by
    rw [runOps_cons, runOps_far V l _ (fun x hx => h x (by simp [hx]))]
    unfold semiAt
    rw [if_neg (fun e => h (p, i) (by simp) e.symm)]
def Len (V : Nat → List Int) (S : RowsOf) (N : List Nat) : Prop := ∀ j ∈ N, (V j).Nodup ∧ ∀ t ∈ S j, t.length = (V j).length
theorem semiAt_sub {V : Nat → List Int} {S : RowsOf} {p i j : Nat} : ∀ t ∈ semiAt V S p i j, t ∈ S j := fun t ht => by
  unfold semiAt at ht
  split at ht
  · rename_i e; subst e; exact (List.mem_filter.1 ht).1
  · exact ht
theorem Len.semi {V : Nat → List Int} {S : RowsOf} {N : List Nat} (h : Len V S N) (p i : Nat) : Len V (semiAt V S p i) N := fun j hj => ⟨(h j hj).1, fun t ht => (h j hj).2 t (semiAt_sub t ht)⟩
theorem Len.sub {V : Nat → List Int} {S : RowsOf} {N N' : List Nat} (h : Len V S N) (hs : ∀ j ∈ N', j ∈ N) : Len V S N' := fun j hj => h j (hs j hj)
def Sol (V : Nat → List Int) (S : RowsOf) (N : List Nat) (g : Int → Int) : Prop := ∀ j ∈ N, (V j).map g ∈ S j
theorem map_mix {l c : List Int} {h g : Int → Int} (hm : ∀ v ∈ l, v ∈ c → h v = g v) : l.map (fun v => if v ∈ c then h v else g v) = l.map g := List.map_congr_left fun v hv => by
  split
  · rename_i k; exact hm v hv k
  · rfl
theorem map_mix2 {c : List Int} {h g : Int → Int} : c.map (fun v => if v ∈ c then h v else g v) = c.map h := List.map_congr_left fun v hv => by rw [if_pos hv]
theorem map_at {l : List Int} {h g : Int → Int} (e : l.map h = l.map g) : ∀ v ∈ l, h v = g v := fun v hv => List.map_inj_left.1 e v hv
theorem full_iff {V : Nat → List Int} {L : List (Nat × Nat)} {r : Nat} {N : List Nat} (h : Ear V L r N) : ∀ S : RowsOf, Len V S N → ∀ j ∈ N, ∀ t, t ∈ runOps V S (fullOps L) j ↔ ∃ g, (V j).map g = t ∧ Sol V S N g := by
  induction h with
  | @nil r =>
    intro S hL j hj t
    obtain rfl := List.mem_singleton.1 hj
    constructor
    · intro ht
      obtain ⟨h1, h2⟩ := hL j hj
      refine ⟨valAt (V j) t, map_valAt h1 (h2 t ht), fun i hi => ?_⟩
      obtain rfl := List.mem_singleton.1 hi
      rw [map_valAt h1 (h2 t ht)]
      exact ht
    · rintro ⟨g, rfl, hg⟩
      exact hg j hj
  | @cons L r c p N h0 h1 h2 h3 ih =>
    intro S hL
    have hcp : c ≠ p := fun e => h1 (e ▸ h2)
    have hLN : Len V S N := hL.sub fun j hj => by simp [hj]
    obtain ⟨nc, lc⟩ := hL c (by simp)
    obtain ⟨np, lp⟩ := hL p (by simp [h2])
    have IH := ih (semiAt V S p c) (hLN.semi p c)
    -- solutions of the smaller tree, and of the whole one
    have hdown : ∀ g, Sol V S (c :: N) g → Sol V (semiAt V S p c) N g := fun g hg i hi => by
      unfold semiAt
      split
      · rename_i e; subst e
        exact (mem_semiL np nc lp lc).2 ⟨hg i (by simp [hi]), g, rfl, hg c (by simp)⟩
      · exact hg i (by simp [hi])
    have hmix : ∀ (k g : Int → Int), (V c).map k ∈ S c → (V p).map k = (V p).map g → Sol V (semiAt V S p c) N g → Sol V S (c :: N) (fun v => if v ∈ V c then k v else g v) ∧ ∀ i ∈ N, (V i).map (fun v => if v ∈ V c then k v else g v) = (V i).map g := by
      intro k g hk hkg hg
      have e1 : ∀ i ∈ N, (V i).map (fun v => if v ∈ V c then k v else g v) = (V i).map g := fun i hi => map_mix fun v hv hvc => map_at hkg v (h3 v hvc i hi hv)
      refine ⟨fun i hi => ?_, e1⟩
      rcases List.mem_cons.1 hi with e | e
      · subst e; rw [map_mix2]; exact hk
      · rw [e1 i e]; exact semiAt_sub _ (hg i e)
    have hup : ∀ g, Sol V (semiAt V S p c) N g → ∃ g', Sol V S (c :: N) g' ∧ ∀ i ∈ N, (V i).map g' = (V i).map g := fun g hg => by
      have hp := hg p h2
      unfold semiAt at hp
      rw [if_pos rfl] at hp
      obtain ⟨_, k, hk1, hk2⟩ := (mem_semiL np nc lp lc).1 hp
      exact ⟨_, hmix k g hk2 hk1 hg⟩
    have eq : fullOps ((c, p) :: L) = (p, c) :: (fullOps L ++ [(c, p)]) := rfl
    have hfar : runOps V (semiAt V S p c) (fullOps L) c = S c := by
      rw [runOps_far]
      · unfold semiAt; rw [if_neg hcp]
      · intro x hx
        rw [fullOps_eq] at hx
        rcases List.mem_append.1 hx with hx | hx
        · obtain ⟨y, hy, rfl⟩ := List.mem_map.1 hx
          exact fun e => h1 (e ▸ (h0.mem y hy).2.1)
        · exact fun e => h1 (e ▸ (h0.mem x (List.mem_reverse.1 hx)).1)
    intro j hj t
    rw [eq, runOps_cons, runOps_snoc]
    obtain ⟨S2, hS2⟩ : ∃ S2, runOps V (semiAt V S p c) (fullOps L) = S2 := ⟨_, rfl⟩
    rw [hS2] at IH hfar ⊢
    unfold semiAt
    rcases List.mem_cons.1 hj with e | e
    · subst e
      rw [if_pos rfl, hfar]
      have lp2 : ∀ s ∈ S2 p, s.length = (V p).length := fun s hs => by
        obtain ⟨g, rfl, _⟩ := (IH p h2 s).1 hs
        simp
      rw [mem_semiL nc np lc lp2]
      constructor
      · rintro ⟨ht, k, rfl, hk⟩
        obtain ⟨g, hg1, hg2⟩ := (IH p h2 _).1 hk
        obtain ⟨h5, _⟩ := hmix k g ht hg1.symm hg2
        exact ⟨_, map_mix2, h5⟩
      · rintro ⟨g, rfl, hg⟩
        exact ⟨hg j (by simp), g, rfl, (IH p h2 _).2 ⟨g, rfl, hdown g hg⟩⟩
    · rw [if_neg (fun k : j = c => h1 (k ▸ e)), IH j e]
      constructor
      · rintro ⟨g, rfl, hg⟩
        obtain ⟨g', h5, h6⟩ := hup g hg
        exact ⟨g', h6 j e, h5⟩
      · rintro ⟨g, rfl, hg⟩
        exact ⟨g, rfl, hdown g hg⟩
def upV (V : Nat → List Int) (p : Nat) (u : List Int) : Nat → List Int := fun j => if j = p then u else V j
def upS (S : RowsOf) (p : Nat) (u : List (List Int)) : RowsOf := fun j => if j = p then u else S j
theorem Ear.grow {V : Nat → List Int} {c p : Nat} {u : List Int} (hu : ∀ v, v ∈ u ↔ v ∈ V p ∨ v ∈ V c) {L : List (Nat × Nat)} {r : Nat} {N : List Nat} (h : Ear V L r N) :
    c ∉ N → (∀ v ∈ V c, ∀ j ∈ N, v ∈ V j → v ∈ V p) → p ∈ N → Ear (upV V p u) L r N := by
  intro hc hs hp
  -- for any part of the list, p in it or not
  have : ∀ (v : Int) (j : Nat), j ∈ N → v ∈ upV V p u j → v ∈ V j ∨ (j = p ∧ v ∈ V c) := fun v j _ hv => by
    unfold upV at hv
    split at hv
    · rename_i e; subst e
      rcases (hu v).1 hv with h | h
      · exact .inl h
      · exact .inr ⟨rfl, h⟩
    · exact .inl hv
  have up : ∀ (v : Int) (j : Nat), v ∈ V j → v ∈ upV V p u j := fun v j hv => by
    unfold upV
    split
    · rename_i e; subst e; exact (hu v).2 (.inl hv)
    · exact hv
  clear hp
  induction h with
  | nil => exact .nil
  | @cons L r c1 p1 N h0 h1 h2 h3 ih =>
    refine .cons (ih (fun k => hc (by simp [k])) (fun v hv j hj hvj => hs v hv j (by simp [hj]) hvj) (fun v j hj hv => this v j (by simp [hj]) hv)) h1 h2 fun v hv j hj hvj => ?_
    rcases this v c1 (by simp) hv with a | ⟨a, a'⟩
    · rcases this v j (by simp [hj]) hvj with b | ⟨b, b'⟩
      · exact up v p1 (h3 v a j hj b)
      · subst b
        exact up v p1 (h3 v a j hj (hs v b' c1 (by simp) a))
    · rcases this v j (by simp [hj]) hvj with b | ⟨b, b'⟩
      · have := hs v a' j (by simp [hj]) b
        subst a
        exact up v p1 (h3 v this j hj b)
      · exact absurd (a.trans b.symm ▸ hj) h1
def Whole (V : Nat → List Int) (S : RowsOf) (N : List Nat) : Prop := ∀ j ∈ N, ∀ t ∈ S j, ∃ g, (V j).map g = t ∧ Sol V S N g
theorem sol_join {V : Nat → List Int} {S : RowsOf} {c p : Nat} {N : List Nat} {u : List Int} {l : List (List Int)} (hp : p ∈ N) (hc : c ∉ N) (hu : ∀ v, v ∈ u ↔ v ∈ V p ∨ v ∈ V c)
    (hl : ∀ t, t ∈ l ↔ ∃ g : Int → Int, u.map g = t ∧ (V p).map g ∈ S p ∧ (V c).map g ∈ S c) (g : Int → Int) : Sol (upV V p u) (upS S p l) N g ↔ Sol V S (c :: N) g := by
  constructor
  · intro h
    have h1 := h p hp
    unfold upV upS at h1
    rw [if_pos rfl, if_pos rfl] at h1
    obtain ⟨k, hk, h2, h3⟩ := (hl _).1 h1
    have e := map_at hk
    rw [List.map_congr_left (g := g) fun v hv => e v ((hu v).2 (.inl hv))] at h2
    rw [List.map_congr_left (g := g) fun v hv => e v ((hu v).2 (.inr hv))] at h3
    intro j hj
    rcases List.mem_cons.1 hj with e | e
    · subst e; exact h3
    · by_cases hjp : j = p
      · subst hjp; exact h2
      · have := h j e
        unfold upV upS at this
        rwa [if_neg hjp, if_neg hjp] at this
  · intro h j hj
    unfold upV upS
    split
    · rename_i e; subst e
      exact (hl _).2 ⟨g, rfl, h j (by simp [hj]), h c (by simp)⟩
    · exact h j (by simp [hj])
theorem whole_join {V : Nat → List Int} {S : RowsOf} {c p : Nat} {N : List Nat} {u : List Int} {l : List (List Int)} (hp : p ∈ N) (hc : c ∉ N) (hs : ∀ v ∈ V c, ∀ j ∈ N, v ∈ V j → v ∈ V p) (hu : ∀ v, v ∈ u ↔ v ∈ V p ∨ v ∈ V c)
    (hl : ∀ t, t ∈ l ↔ ∃ g : Int → Int, u.map g = t ∧ (V p).map g ∈ S p ∧ (V c).map g ∈ S c) (hw : Whole V S (c :: N)) : Whole (upV V p u) (upS S p l) N := by
  intro j hj t ht
  by_cases hjp : j = p
  · subst hjp
    unfold upS at ht
    rw [if_pos rfl] at ht
    obtain ⟨k, rfl, h2, h3⟩ := (hl _).1 ht
    obtain ⟨g, hg, hG⟩ := hw j (by simp [hj]) _ h2
    have ev := map_at hg
    have e1 : ∀ i ∈ N, (V i).map (fun v => if v ∈ V c then k v else g v) = (V i).map g := fun i hi => map_mix fun v hv hvc => (ev v (hs v hvc i hi hv)).symm
    refine ⟨fun v => if v ∈ V c then k v else g v, ?_, ?_⟩
    · unfold upV
      rw [if_pos rfl]
      refine List.map_congr_left fun v hv => ?_
      split
      · rfl
      · rename_i h
        rcases (hu v).1 hv with a | a
        · exact ev v a
        · exact absurd a h
    · rw [sol_join hp hc hu hl]
      intro i hi
      rcases List.mem_cons.1 hi with e | e
      · subst e; rw [map_mix2]; exact h3
      · rw [e1 i e]; exact hG i (by simp [e])
  · unfold upS at ht
    rw [if_neg hjp] at ht
    obtain ⟨g, hg, hG⟩ := hw j (by simp [hj]) t ht
    refine ⟨g, ?_, (sol_join hp hc hu hl g).2 hG⟩
    unfold upV
    rw [if_neg hjp]
    exact hg
end Go.Proofs.YtfigcfajkilhiaaGreat
namespace Go.Proofs.YtfigcfajkilhiaaGreat
theorem tIIr : SlT Tryz.prog 56 26 1 24 (.slice none 0 0) := ⟨Tryz.underlying56, by kernel_rfl, rfl, by omega⟩
end Go.Proofs.YtfigcfajkilhiaaGreat
namespace Go.Proofs.YtfigcfajkilhiaaGreat
open Go.RowKit
section
variable {P : Program} {w : World}
theorem wp_appL {o : Oper} {a : Act} {K : Act → World → Prop} {Q : Exit → Act → World → Prop} (s x : Operand) (t : TypeId)
    (ho : o.op = .call { callee := .builtin .append, args := #[s, x], argTypes := #[t, t] })
    {α : Type} {E : SE α} [SMono E] [SPlain E] {V : VE α} {te size bytes : Nat} {z : Value} (hT : SlT P t te size bytes z) {v : Value} {ds es : List α} {F : List Nat} (hs : a.eval s = v) (hS : SV te size E w v ds F)
    {A : Option Addr} {c m : Nat} (hx : a.eval x = .slice A m c) (hm : m = es.length) (hc : A = none → c = 0) (hV : RV size V w A es) (hVE : ∀ c d, V w c d → E w c d []) (h1 : ∀ c d, V w c d → ∀ u ∈ c, u.oneCell' = true)
    (hlen : ds.length + m ≤ 2000000000) (hby : bytes ≤ 60000)
    (h : ∀ v' w' F', SV te size E w' v' (ds ++ es) F' → Chg F w w' → (∀ b ∈ F', b ∈ F ∨ w.heap.size ≤ b) → K (a.put o.dst v') w') : o.wp P a w K Q := by
  subst hm
  cases A with
  | none =>
    have e0 : es = [] := Classical.byContradiction fun hn => by
      obtain ⟨b, o, h, _⟩ := hV hn
      cases h
    subst e0
    obtain ⟨ht, hi, _, _⟩ := hT
    obtain ⟨i, hi, _, _, _⟩ := info_parts hi
    rw [hc rfl] at hx
    have hS' := hS
    obtain ⟨vs, F2, ho', _, _⟩ := hS'
    have hrun := run_append_owned_none (P := P) (w := w) 0 t o.type te i size ht hi v ds.length vs ho'
    unfold Oper.wp execOp
    simp only [ho, resolve, invoke, builtin, Sem.run_bind, Sem.run_pure, Result.andThen_ok, List.map_toArray, List.map_cons, List.map_nil, hs, hx, List.length_nil, hrun]
    exact h v w F (by simpa using hS) (Chg.refl F w) fun b hb => .inl hb
  | some ad =>
    have hN := hS.nodup
    have key : ∃ cs : List Value, (∀ j u, cs[j]? = some u → w.cell? (ad.add j) = some u) ∧ elems size E w cs es [] ∧ ∀ u ∈ cs, u.oneCell' = true := by
      by_cases hn : es = []
      · subst hn
        exact ⟨[], by simp, ⟨rfl, rfl⟩, by simp⟩
      · obtain ⟨b, o, e, _, h3⟩ := hV hn
        injection e with e
        subst e
        exact RV.cells hVE h1 es o h3
    obtain ⟨cs, k1, k2, k3⟩ := key
    refine wp_appS _ s x t ho hT hs hS hN hx k1 k3 rfl k2 (by simpa using hN) hlen hby ?_
    intro v' w' F' h2 h3 _ h5
    exact h v' w' F' h2 h3 fun b hb => by
      rcases h5 b hb with h | h | h
      · exact .inl h
      · simp at h
      · exact .inr h
theorem step_appL {ops : Array Oper} {o : Oper} {a : Act} {K : Act → World → Prop} {Q : Exit → Act → World → Prop} {X : Prop} (hgd : o.guard = none) (s x : Operand) (t : TypeId)
    (ho : o.op = .call { callee := .builtin .append, args := #[s, x], argTypes := #[t, t] })
    {α : Type} {E : SE α} [SMono E] [SPlain E] {V : VE α} {te size bytes : Nat} {z : Value} (hT : SlT P t te size bytes z) {v : Value} {ds es : List α} {F : List Nat} (hs : a.eval s = v) (hS : SV te size E w v ds F)
    {A : Option Addr} {c m : Nat} (hx : a.eval x = .slice A m c) (hm : m = es.length) (hc : A = none → c = 0) (hV : RV size V w A es) (hVE : ∀ c d, V w c d → E w c d []) (h1 : ∀ c d, V w c d → ∀ u ∈ c, u.oneCell' = true)
    (hlen : ds.length + m ≤ 2000000000) (hby : bytes ≤ 60000)
    (h : ∀ v' w' F', SV te size E w' v' (ds ++ es) F' → Chg F w w' → (∀ b ∈ F', b ∈ F ∨ w.heap.size ≤ b) → K (a.put o.dst v') w') :
    if Region.wanted o (yielded ops a.tmps) = true then Oper.wp P o a w K Q else X := by
  have hwt : Region.wanted o (yielded ops a.tmps) = true := by simp [Region.wanted, hgd]
  rw [if_pos hwt]
  exact wp_appL s x t ho hT hs hS hx hm hc hV hVE h1 hlen hby h
theorem vI_s {w : World} (c : List Value) (d : Int) (h : vI w c d) : sI w c d [] := ⟨h, rfl⟩
theorem vI_1 {w : World} (c : List Value) (d : Int) (h : vI w c d) : ∀ u ∈ c, u.oneCell' = true := by
  simp only [vI] at h
  subst h
  simp [Value.oneCell']
theorem RI.one {w : World} {B : Nat} {n : Int} (h : BoxAt w B #[.int .i64 n]) : RI w (some ⟨B, 0, none⟩) [n] := fun _ => ⟨B, 0, rfl, h.1, fun j hj => by
  have : j = 0 := by simpa using hj
  subst this
  refine ⟨[.int .i64 n], rfl, fun i hi => ?_, rfl⟩
  have : i = 0 := by simpa using hi
  subst this
  have := h.2.1 0
  simpa using this⟩
end
end Go.Proofs.YtfigcfajkilhiaaGreat
namespace Go.Proofs.YtfigcfajkilhiaaGreat
open Go.RowKit
section
variable {P : Program} {w : World}
theorem run_append_none_c (base : Nat) (t ty e : TypeId) (i : TypeInfo) (size c : Nat) (ht : P.underlying t = some (.slice e)) (hi : P.info? e = some i)
    (v : Value) (n : Nat) (xs : List Value) (hown : w.ownsRow base e size v n xs) : (Builtin.append_ #[t, t] ty #[v, .slice none 0 c]).run P w = .ok v w := by
  rcases hown.2 with ⟨rfl, rfl⟩ | ⟨g, cap, cur, rfl, _, _, hnc, _⟩
  · simp [Builtin.append_, run_underlying ht, sizeOf, typeInfo, hi, Builtin.lenOf, Builtin.firstCells]
  · simp [Builtin.append_, run_underlying ht, sizeOf, typeInfo, hi, Builtin.lenOf, Builtin.firstCells, hnc, storeCells]
theorem wp_appV {o : Oper} {a : Act} {K : Act → World → Prop} {Q : Exit → Act → World → Prop} (s x : Operand) (t : TypeId)
    (ho : o.op = .call { callee := .builtin .append, args := #[s, x], argTypes := #[t, t] })
    {α : Type} {E : SE α} [SMono E] [SPlain E] {V : VE α} {te size bytes : Nat} {z : Value} (hT : SlT P t te size bytes z) {v : Value} {ds es : List α} {F : List Nat} (hs : a.eval s = v) (hS : SV te size E w v ds F)
    {A : Option Addr} {c m : Nat} (hx : a.eval x = .slice A m c) (hm : m = es.length) (hV : RV size V w A es) (hVE : ∀ c d, V w c d → E w c d []) (h1 : ∀ c d, V w c d → ∀ u ∈ c, u.oneCell' = true)
    (hlen : ds.length + m ≤ 2000000000) (hby : bytes ≤ 60000)
    (h : ∀ v' w' F', SV te size E w' v' (ds ++ es) F' → Chg F w w' → (∀ b ∈ F', b ∈ F ∨ w.heap.size ≤ b) → K (a.put o.dst v') w') : o.wp P a w K Q := by
  cases A with
  | some ad => exact wp_appL s x t ho hT hs hS hx hm (fun h => by cases h) hV hVE h1 hlen hby h
  | none =>
    have e0 : es = [] := Classical.byContradiction fun hn => by
      obtain ⟨b, o, h, _⟩ := hV hn
      cases h
    subst e0
    subst hm
    obtain ⟨ht, hi, _, _⟩ := hT
    obtain ⟨i, hi, _, _, _⟩ := info_parts hi
    have hS' := hS
    obtain ⟨vs, F2, ho', _, _⟩ := hS'
    have hrun := run_append_none_c (P := P) (w := w) 0 t o.type te i size c ht hi v ds.length vs ho'
    unfold Oper.wp execOp
    simp only [ho, resolve, invoke, builtin, Sem.run_bind, Sem.run_pure, Result.andThen_ok, List.map_toArray, List.map_cons, List.map_nil, hs, hx, List.length_nil, hrun]
    exact h v w F (by simpa using hS) (Chg.refl F w) fun b hb => .inl hb
theorem step_appV {ops : Array Oper} {o : Oper} {a : Act} {K : Act → World → Prop} {Q : Exit → Act → World → Prop} {X : Prop} (hgd : o.guard = none) (s x : Operand) (t : TypeId)
    (ho : o.op = .call { callee := .builtin .append, args := #[s, x], argTypes := #[t, t] })
    {α : Type} {E : SE α} [SMono E] [SPlain E] {V : VE α} {te size bytes : Nat} {z : Value} (hT : SlT P t te size bytes z) {v : Value} {ds es : List α} {F : List Nat} (hs : a.eval s = v) (hS : SV te size E w v ds F)
    {A : Option Addr} {c m : Nat} (hx : a.eval x = .slice A m c) (hm : m = es.length) (hV : RV size V w A es) (hVE : ∀ c d, V w c d → E w c d []) (h1 : ∀ c d, V w c d → ∀ u ∈ c, u.oneCell' = true)
    (hlen : ds.length + m ≤ 2000000000) (hby : bytes ≤ 60000)
    (h : ∀ v' w' F', SV te size E w' v' (ds ++ es) F' → Chg F w w' → (∀ b ∈ F', b ∈ F ∨ w.heap.size ≤ b) → K (a.put o.dst v') w') :
    if Region.wanted o (yielded ops a.tmps) = true then Oper.wp P o a w K Q else X := by
  have hwt : Region.wanted o (yielded ops a.tmps) = true := by simp [Region.wanted, hgd]
  rw [if_pos hwt]
  exact wp_appV s x t ho hT hs hS hx hm hV hVE h1 hlen hby h
theorem wpList_appV {ops : Array Oper} {rest : List Oper} {o : Oper} {a : Act} {Q : Exit → Act → World → Prop} (hgd : o.guard = none) (s x : Operand) (t : TypeId)
    (ho : o.op = .call { callee := .builtin .append, args := #[s, x], argTypes := #[t, t] })
    {α : Type} {E : SE α} [SMono E] [SPlain E] {V : VE α} {te size bytes : Nat} {z : Value} (hT : SlT P t te size bytes z) {v : Value} {ds es : List α} {F : List Nat} (hs : a.eval s = v) (hS : SV te size E w v ds F)
    {A : Option Addr} {c m : Nat} (hx : a.eval x = .slice A m c) (hm : m = es.length) (hV : RV size V w A es) (hVE : ∀ c d, V w c d → E w c d []) (h1 : ∀ c d, V w c d → ∀ u ∈ c, u.oneCell' = true)
    (hlen : ds.length + m ≤ 2000000000) (hby : bytes ≤ 60000)
    (h : ∀ v' w' F', SV te size E w' v' (ds ++ es) F' → Chg F w w' → (∀ b ∈ F', b ∈ F ∨ w.heap.size ≤ b) → wpList P ops Q rest (a.put o.dst v') w') : wpList P ops Q (o :: rest) a w :=
  wpList_plain hgd fun _ hK => wp_appV s x t ho hT hs hS hx hm hV hVE h1 hlen hby fun v' w' F' h2 h3 h5 => hK _ _ (h v' w' F' h2 h3 h5)
end
def sOld {α : Type} (V : VE α) (W : World) : SE α := fun _ c d F => V W c d ∧ F = []
instance {α : Type} (V : VE α) (W : World) : SMono (sOld V W) := ⟨fun h b hb => by rw [h.2] at hb; simp at hb, fun h _ => h⟩
instance {α : Type} (V : VE α) (W : World) : SPlain (sOld V W) := ⟨fun h => h.2⟩
theorem sOld_v {α : Type} {V : VE α} [VMono V] {W w : World} (hx : ∃ y, w = ext W y) (c : List Value) (d : α) (F : List Nat) (h : sOld V W w c d F) : V w c d := by
  obtain ⟨y, rfl⟩ := hx
  exact VMono.ext h.1
theorem copyInts_v {A : Option Addr} {c : Nat} {xs : List Int} {w : World} (hx : xs.length ≤ 1000000000) (h1 : RI w A xs) :
    Calls Tryz.prog 81 #[.slice A xs.length c] w fun e w' => ∃ v F, e = .returned v ∧ (∃ y, w' = ext w y) ∧ SV 3 1 sI w' v xs F ∧ ∀ b ∈ F, w.heap.size ≤ b := by
  have hS0 := SV.empty (α := Int) (te := 3) (size := 1) (E := sI) w
  go_enter Tryz.func81, Tryz.ntmps81
  go_wp2_with (at_builtin; refine wpList_appV (E := sI) (V := vI) (es := xs) rfl _ _ _ rfl tI rfl hS0 rfl rfl (h1.toExt (by refine x'z ?_; repeat (with_reducible (first | exact x'a _ _ | exact x'b _ | exact x'c (by assumption) | refine x'd ?_ (by assumption) | refine x'e ?_ _ | refine x'f ?_ _ | refine x'g ?_ | refine x'h ?_ ?_ _ | refine x'i ?_ _ | refine x'j ?_ | refine x'k ?_ _ | refine x'l ?_ _ _ | refine x'm ?_ | assumption | (refine x'n ?_; omega) | omega)))) vI_s vI_1 (by simp; omega) (by omega) ?_; intro v' w' F' hS hC hF)
  go_ret
  exact ⟨_, F', rfl, hC.isExt (by refine x'z ?_; repeat (with_reducible (first | exact x'a _ _ | exact x'b _ | exact x'c (by assumption) | refine x'd ?_ (by assumption) | refine x'e ?_ _ | refine x'f ?_ _ | refine x'g ?_ | refine x'h ?_ ?_ _ | refine x'i ?_ _ | refine x'j ?_ | refine x'k ?_ _ | refine x'l ?_ _ _ | refine x'm ?_ | assumption | (refine x'n ?_; omega) | omega))) (by simp), by simpa using hS, fun b hb => by
    rcases hF b hb with h | h
    · simp at h; omega
    · simp at h; omega⟩
end Go.Proofs.YtfigcfajkilhiaaGreat
