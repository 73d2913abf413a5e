/- Contracts of functions that the statements reach, joined from several texts: Copy5, NewRel, NewRel2, Nest2, DbPl, Strs, JoinT, PlJoin, IntPl, RelFPl, Draw7, AppP, Hold, Carry, AtomsN, DbT. -/
import Derived.Test.YtfigcfajkilhiaaE02
import Derived.Test.YtfigcfajkilhiaaE03
import Derived.Deep.RegionLaw
import Derived.Deep.DrawnRows
import Derived.Deep.DeepCutAuto
import Derived.Test.YtfigcfajkilhiaaE01
import Derived.Test.YtfigcfajkilhiaaRows
/- A relation copied by the reference, row by row into a field. -/
namespace Go.Proofs.Ytfigcfajkilhiaa
open Go.RowKit

set_option maxRecDepth 100000 in
set_option maxHeartbeats 16000000 in
theorem l5Copy_any {z : Int} {A : Option Addr} {c : Nat} {rows : List (List Int)} {w : World} (hx : rows.length ≤ 1000000000) (hxl : ∀ x ∈ rows, x.length ≤ 1000000000) (h1 : RII w A rows) :
    Calls Try.prog 152 #[.agg #[.int .i64 z, .slice A rows.length c]] w fun e w' => ∃ v0 v1 F, e = .returned (.agg #[v0, v1]) ∧ (∃ y, w' = ext w y) ∧ sRel w' [v0, v1] (z, rows) F ∧ F.Nodup ∧ ∀ b ∈ F, w.heap.size ≤ b := by
  have Hxl := Lib.hid hxl
  clear hxl
  go_enter Try.func152, Try.ntmps152
  go_upto_region 1 with fail
  refine wp_name ?_
  intro w0 hw0
  have hx0 : ∃ y, w0 = ext w y := by rw [hw0.out]; exact (by refine x'z ?_; repeat (with_reducible (first | exact x'a _ _ | exact x'b _ | exact x'c (by assumption) | refine x'd ?_ (by assumption) | refine x'e ?_ _ | refine x'f ?_ _ | refine x'g ?_ | refine x'h ?_ ?_ _ | refine x'i ?_ _ | refine x'j ?_ | refine x'k ?_ _ | refine x'l ?_ _ _ | refine x'm ?_ | assumption | (refine x'n ?_; omega) | omega)))
  have P0 : BoxAt w0 w.heap.size #[.int .i64 z, .slice A rows.length c] := by rw [hw0.out]; exact (by repeat (with_reducible (first | assumption | exact BoxAt.new _ _ _ | apply BoxAt.set2 | refine BoxAt.set2' ?_ (by omega) | apply BoxAt.setP0 | apply BoxAt.setP1 | refine BoxAt.setO ?_ (by omega) | refine BoxAt.alloc ?_ _ | refine BoxAt.drew ?_ | refine BoxAt.toExt ?_ (by assumption))))
  have R0 : BoxAt w0 (w.heap.size + 1) #[.int .i64 0, .slice none 0 0] := by
    rw [hw0.out]
    simpa using BoxAt.new (w.alloc (.cells #[.int .i64 z, .slice A rows.length c] 39)) #[.int .i64 0, .slice none 0 0] 39
  obtain ⟨l0, k0, k0', f0⟩ := bx2 P0
  obtain ⟨m0, n0, n0', g0⟩ := bx2 R0
  clear hw0
  go_upto_region 2 with fail
  refine wp_name ?_
  intro W hW
  have xW : ∃ y, W = ext w0 y := by rw [hW.out]; exact (by refine x'z ?_; repeat (with_reducible (first | exact x'a _ _ | exact x'b _ | exact x'c (by assumption) | refine x'd ?_ (by assumption) | refine x'e ?_ _ | refine x'f ?_ _ | refine x'g ?_ | refine x'h ?_ ?_ _ | refine x'i ?_ _ | refine x'j ?_ | refine x'k ?_ _ | refine x'l ?_ _ _ | refine x'm ?_ | assumption | (refine x'n ?_; omega) | omega)))
  have X0 : BoxAt W w0.heap.size #[.int .i64 z, .slice none 0 0] := by rw [hW.out]; exact (by repeat (with_reducible (first | assumption | exact BoxAt.new _ _ _ | apply BoxAt.set2 | refine BoxAt.set2' ?_ (by omega) | apply BoxAt.setP0 | apply BoxAt.setP1 | refine BoxAt.setO ?_ (by omega) | refine BoxAt.alloc ?_ _ | refine BoxAt.drew ?_ | refine BoxAt.toExt ?_ (by assumption))))
  have P1 := P0.toExt xW
  have R1 := R0.toExt xW
  have hxw := trans_ext hx0 xW
  have h1' := h1.toExt hxw
  have hpx : w.heap.size ≠ w0.heap.size := by omega
  have hrx : w.heap.size + 1 ≠ w0.heap.size := by omega
  have hw0s : w.heap.size < w0.heap.size := l0
  obtain ⟨bX, qX⟩ : ∃ b, w0.heap.size = b := ⟨_, rfl⟩
  rw [qX] at X0 hpx hrx hw0s ⊢
  have hXw : bX < W.heap.size := X0.1
  have hsz := Lib.hid (size_of_ext hxw)
  clear hW qX P0 R0 l0 k0 k0' f0 m0 n0 n0' g0
  go_wp2
  go_loopw [4] (fun i wr => ∃ (k : Nat) (A' : Option Addr) (c' : Nat) (F : List Nat), i = .int .i64 k ∧ k ≤ rows.length ∧ BoxAt wr bX #[.int .i64 z, .slice A' k c'] ∧ SV 48 1 (sSl 3 1 sI) wr (.slice A' k c') (rows.take k) F ∧ F.Nodup ∧ (∀ b ∈ F, W.heap.size ≤ b) ∧ Chg [bX] W wr) (fun i _ => rows.length - (intOf i).toNat)
  case atStart => exact ⟨0, none, 0, [], rfl, by omega, X0, SV.nil, by simp, by simp, Chg.refl _ _⟩
  case round =>
    obtain ⟨k, A', c', F, rfl, hk, hB, hS, hN, hF, hC⟩ := hrel
    have hw : ∃ y, wr = ext w y := hC.isExt hxw (by simpa using Nat.le_of_lt hw0s)
    obtain ⟨lp, p0, p0', fp⟩ := bx2 (P1.chg hC (by simpa using hpx))
    obtain ⟨lx0, q0, q0', fx⟩ := bx2 hB
    have HN := Lib.hid hN
    have HF := Lib.hid hF
    have HC := Lib.hid hC
    have HB := Lib.hid hB
    by_cases hlt : k < rows.length
    · obtain ⟨b, o, A1, c1, rfl, hb, hc, hv⟩ := (h1.toExt hw).atV hlt
      have lx := Hxl.out rows[k] (List.getElem_mem hlt)
      have Ht := Lib.hid (show rows.take (k + 1) = rows.take k ++ [rows[k]] from List.take_succ_eq_append_getElem hlt)
      have hlk : (rows.take k).length + 1 ≤ 2000000000 := by simp; omega
      have HL := Lib.hid (show (rows.take k).length = k by simp; omega)
      have hSlt := Lib.hid hS.lt
      have HS := Lib.hid hS
      have hsC := hC.size
      have HP := Lib.hid (P1.chg hC (by simpa using hpx))
      have HV := Lib.hid hv
      obtain ⟨x, hx1⟩ : ∃ x, rows[k] = x := ⟨_, rfl⟩
      rw [hx1] at hc lx Ht HV
      have hbX : bX < wr.heap.size := hB.1
      have hXF : bX ∉ F := fun h => by have := hF bX h; omega
      clear hx1 hv hN hF hC hB hS
      go_upto_region 5 with fail
      go_region_law (first
        | (refine step_appV (E := sI) (V := vI) (es := x) (by rfl) _ _ _ (by rfl) tI (by rfl) ((SV.empty wr).toExt (drew_ext _)) (by rfl) (by rfl) (HV.out.toExt (by refine x'z ?_; repeat (with_reducible (first | exact x'a _ _ | exact x'b _ | exact x'c (by assumption) | refine x'd ?_ (by assumption) | refine x'e ?_ _ | refine x'f ?_ _ | refine x'g ?_ | refine x'h ?_ ?_ _ | refine x'i ?_ _ | refine x'j ?_ | refine x'k ?_ _ | refine x'l ?_ _ _ | refine x'm ?_ | assumption | (refine x'n ?_; omega) | omega)))) vI_s vI_1 (by simp; omega) (by omega) ?_; intro v6 w6 F6 hS6 hC6 hF6; obtain ⟨A6, c6, rfl, _, _⟩ := hS6.form; have B6 := ((HB.out.alloc (.cells #[] 3)).drew).chg hC6 (by simp; omega); obtain ⟨l6, q6, q6', f6⟩ := bx2 B6; obtain ⟨m6, p6, p6', g6⟩ := bx2 (((HP.out.alloc (.cells #[] 3)).drew).chg hC6 (by simp; omega)))
        | (refine step_appB (E := sSl 3 1 sI) (d := x) (G := F6) (by rfl) _ _ _ (by rfl) tIIr (by rfl) (by rfl) (by exact BoxAt.new _ _ _) ⟨_, rfl, hS6.toExt (alloc_ext _ _)⟩ (by rfl) (by simp [Value.oneCell']) (((HS.out.toExt (trans_ext (alloc_ext _ _) (drew_ext _))).chg hC6 (fun b hb h => by have := hSlt.out b hb; simp at h; omega)).toExt (alloc_ext _ _)) (nodup_more HN.out hS6.nodup hSlt.out (fun b hb => by rcases hF6 b hb with h | h <;> simp at h <;> omega)) (by rw [HL.out]; omega) (by omega) ?_; intro v7 w7 F7 hS7 hC7 hN7 hF7; obtain ⟨A7, c7, rfl, _, _⟩ := hS7.form; have B7 := (B6.alloc (.cells #[.slice A6 x.length c6] 48)).chg hC7 hXF; obtain ⟨l7, q7, q7', f7⟩ := bx2 B7))
      all_goals
        have hz6 := hC6.size
        simp only [World.size_alloc, World.drew] at hz6
        have hn6 : ∀ b ∈ F6, wr.heap.size ≤ b := fun b hb => by
          rcases hF6 b hb with h | h
          · simp at h; omega
          · simp at h; omega
        have hF7n : ∀ b ∈ F7, W.heap.size ≤ b := fun b hb => by
          rcases hF7 b hb with h | h | h
          · exact HF.out b h
          · have := hn6 b h; omega
          · rw [World.size_alloc] at h; omega
        have hCa := (((((HC.out.alloc (.cells #[] 3)).drew).trans hC6 (fun x hx => .inr (by simp at hx; omega))).alloc (.cells #[.slice A6 x.length c6] 48)).trans hC7 (fun x hx => .inr (HF.out x hx))).setCell (p := ⟨bX, 1, none⟩) (.inl (by simp)) (.slice A7 ((rows.take k) ++ [x]).length c7)
        have hSf := hS7.chg ((Chg.refl [bX] w7).setCell (p := ⟨bX, 1, none⟩) (.inl (by simp)) (.slice A7 ((rows.take k) ++ [x]).length c7)) (fun b hb h => by have := hF7n b hb; rw [List.mem_singleton.1 h] at this; omega)
        have hBf := B7.setP1 (v' := .slice A7 ((rows.take k) ++ [x]).length c7)
        have hl1 : ((rows.take k) ++ [x]).length = k + 1 := by simp; omega
        rw [hl1, ← Ht.out] at hSf
        rw [hl1] at hBf hCa
        have HH := Lib.hid (And.intro hSf (And.intro hBf (And.intro hCa hF7n)))
        have HN7 := Lib.hid hN7
        have HL1 := Lib.hid hl1
        clear hCa hF7n hSf hBf hS7 hC7 hN7 hF7 B7 hS6 hF6 hn6 hl1
        go_wp2
        exact ⟨⟨k + 1, A7, c7, F7, by go_num, by omega, HH.out.2.1, HH.out.1, HN7.out, HH.out.2.2.2, HH.out.2.2.1⟩, by simp [intOf]; omega⟩
    · obtain rfl : k = rows.length := by omega
      rw [List.take_of_length_le (Nat.le_refl _)] at hS
      have R2 := R1.chg hC (by simpa using hrx)
      obtain ⟨m0, n0, n0', g0⟩ := bx2 R2
      have hXw : bX < wr.heap.size := hB.1
      go_wp2
      refine bodyPost_ret (v := .agg #[.int .i64 z, .slice A' rows.length c']) (by simp [results, Try.results152, go_sem, *]) rfl ⟨_, _, F, rfl, (by refine x'z ?_; repeat (with_reducible (first | exact x'a _ _ | exact x'b _ | exact x'c (by assumption) | refine x'd ?_ (by assumption) | refine x'e ?_ _ | refine x'f ?_ _ | refine x'g ?_ | refine x'h ?_ ?_ _ | refine x'i ?_ _ | refine x'j ?_ | refine x'k ?_ _ | refine x'l ?_ _ _ | refine x'm ?_ | assumption | (refine x'n ?_; omega) | omega))), sRel_mk (OD.chg (E := sII) (G := [w.heap.size + 1]) ⟨_, rfl, hS⟩ (by repeat (with_reducible (first | exact Chg.refl _ _ | refine Chg.trans0 ?_ (by assumption) | refine Chg.extS ?_ _ | refine Chg.alloc ?_ _ | refine Chg.drew ?_ | refine Chg.setCell ?_ (.inl (by simp)) _))) ?_), HN.out, ?_⟩
      · intro b hb h
        have := HF.out b hb
        have := hsz.out
        simp at h
        omega
      · intro b hb
        have := HF.out b hb
        have := hsz.out
        omega
end Go.Proofs.Ytfigcfajkilhiaa

/- Relations made of rows; rows found in relations: the program's way and the reference's. -/
namespace Go.Proofs.Ytfigcfajkilhiaa
open Go.RowKit

def RelOut (o : Option Rd) (w : World) (e : Ending) (w' : World) : Prop := ∃ v0 v1 F, e = .returned (.tuple #[.agg #[v0, v1], .bool o.isSome]) ∧ (∃ y, w' = ext w y) ∧ sRel w' [v0, v1] (o.getD (0, [])) F ∧ F.Nodup ∧ ∀ b ∈ F, w.heap.size ≤ b
theorem relOut_none {w w' : World} {e : Ending} {o : Option Rd} (ho : o = none) (he : e = .returned (.tuple #[.agg #[.int .i64 0, .slice none 0 0], .bool false])) (hx : ∃ y, w' = ext w y) : RelOut o w e w' := by
  subst ho
  exact ⟨.int .i64 0, .slice none 0 0, [], he, hx, sRel_mk (F := []) ⟨_, rfl, SV.nil⟩, by simp, by simp⟩
def okRow (a : Int) (r : List Int) : Bool := decide ((r.length : Int) = a) && rowV r
theorem rowsIn_step {a : Int} {rows : List (List Int)} {k : Nat} (h : k < rows.length) : rowsIn a (rows.drop k) = (okRow a rows[k] && rowsIn a (rows.drop (k + 1))) := by
  unfold rowsIn
  rw [List.drop_eq_getElem_cons h, List.all_cons]
  rfl
theorem rowsIn_end {a : Int} {rows : List (List Int)} {k : Nat} (h : ¬ k < rows.length) : rowsIn a (rows.drop k) = true := by
  rw [List.drop_eq_nil_of_le (by omega)]; rfl
theorem newR_bad {a : Int} {rows : List (List Int)} (h : rowsIn a rows = false) : newR a rows = none := newR_none.2 (by rw [h]; simp)
theorem newR_eq {a : Int} {rows : List (List Int)} (h : rowsIn a rows = true) : newR a rows = if rowsB a (sortR rows) = true then some (a, sortR rows) else none := by
  unfold newR
  simp [h]
theorem sum_len {m : Nat} : ∀ {l : List (List Int)}, (∀ x ∈ l, x.length ≤ m) → (l.map List.length).sum ≤ m * l.length
  | [], _ => by simp
  | x :: l, h => by
    have h1 := h x (by simp)
    have h2 := sum_len (l := l) fun y hy => h y (by simp [hy])
    rw [List.map_cons, List.sum_cons, List.length_cons, Nat.mul_add]
    omega
/-- rows of a good size for the contracts on relations -/
def RelB (d : Rd) : Prop := I64 d.1 ∧ d.2.length ≤ 1000000 ∧ ∀ x ∈ d.2, x.length ≤ 1000000000
set_option maxRecDepth 100000 in
set_option maxHeartbeats 8000000 in
theorem NewRelation_any {a : Int} {A : Option Addr} {c : Nat} {rows : List (List Int)} {w : World} (ha : I64 a) (hx : rows.length ≤ 1000000000) (hcap : rows.length ≤ c) (hxl : ∀ x ∈ rows, x.length ≤ 1000000000) (h1 : RII w A rows) :
    Calls Try.prog 160 #[.int .i64 a, .slice A rows.length c] w (RelOut (newR a rows) w) := by
  obtain ⟨ha1, ha2⟩ := ha
  have Hxl := Lib.hid hxl
  clear hxl
  go_enter Try.func160, Try.ntmps160
  go_upto_region 1 with fail
  refine wp_name ?_
  intro W hW
  have xW : ∃ y, W = ext w y := by rw [hW.out]; exact (by refine x'z ?_; repeat (with_reducible (first | exact x'a _ _ | exact x'b _ | exact x'c (by assumption) | refine x'd ?_ (by assumption) | refine x'e ?_ _ | refine x'f ?_ _ | refine x'g ?_ | refine x'h ?_ ?_ _ | refine x'i ?_ _ | refine x'j ?_ | refine x'k ?_ _ | refine x'l ?_ _ _ | refine x'm ?_ | assumption | (refine x'n ?_; omega) | omega)))
  have RW : BoxAt W w.heap.size #[.int .i64 0, .slice none 0 0] := by rw [hW.out]; exact (by repeat (with_reducible (first | assumption | exact BoxAt.new _ _ _ | apply BoxAt.set2 | refine BoxAt.set2' ?_ (by omega) | apply BoxAt.setP0 | apply BoxAt.setP1 | refine BoxAt.setO ?_ (by omega) | refine BoxAt.alloc ?_ _ | refine BoxAt.drew ?_ | refine BoxAt.toExt ?_ (by assumption))))
  clear hW
  go_wp2_with fail
  go_loopw [11] (fun i wr => ∃ k : Nat, i = .int .i64 k ∧ k ≤ rows.length ∧ Hid (rowsIn a (rows.drop k) = rowsIn a rows) ∧ ∃ y, wr = ext W y) (fun i _ => rows.length - (intOf i).toNat)
  case atStart => exact ⟨0, rfl, by omega, Lib.hid (by simp), refl_ext W⟩
  case round =>
    obtain ⟨k, rfl, hk, Hj, hy⟩ := hrel
    have hyw := trans_ext xW hy
    obtain ⟨l1, a1, a1', f1⟩ := bx2 (RW.toExt hy)
    by_cases hlt : k < rows.length
    · obtain ⟨b, o, A1, c1, rfl, hb, hc, hv⟩ := (h1.toExt hyw).atV hlt
      have lx := Hxl.out rows[k] (List.getElem_mem hlt)
      have e := Hj.out
      rw [rowsIn_step hlt] at e
      obtain ⟨x, hx1⟩ : ∃ x, rows[k] = x := ⟨_, rfl⟩
      rw [hx1] at hc hv lx e
      unfold okRow at e
      obtain ⟨t1, ht1⟩ : ∃ t, decide ((x.length : Int) = a) = t := ⟨_, rfl⟩
      obtain ⟨t2, ht2⟩ : ∃ t, rowV x = t := ⟨_, rfl⟩
      have hq : ((x.length : Int) != a) = !t1 := by rw [← ht1]; by_cases q : (x.length : Int) = a <;> simp [q]
      rw [ht1, ht2] at e
      have T2 := Lib.hid ht2
      have He := Lib.hid e
      clear e ht1 ht2 hx1
      cases t1
      · have HZ := Lib.hid (newR_bad (a := a) (rows := rows) (by rw [← He.out]; rfl))
        go_wp2
        refine bodyPost_ret (v := .tuple #[.agg #[.int .i64 0, .slice none 0 0], .bool false]) (by simp [results, Try.results160, go_sem, *]) rfl (relOut_none HZ.out rfl (by refine x'z ?_; repeat (with_reducible (first | exact x'a _ _ | exact x'b _ | exact x'c (by assumption) | refine x'd ?_ (by assumption) | refine x'e ?_ _ | refine x'f ?_ _ | refine x'g ?_ | refine x'h ?_ ?_ _ | refine x'i ?_ _ | refine x'j ?_ | refine x'k ?_ _ | refine x'l ?_ _ _ | refine x'm ?_ | assumption | (refine x'n ?_; omega) | omega))))
      · cases t2
        · have HZ := Lib.hid (newR_bad (a := a) (rows := rows) (by rw [← He.out]; rfl))
          go_wp2_with (go_at_call 189; refine (AreValidValues_any lx hv).mono ?_; rintro e w1 ⟨rfl, rfl⟩; rw [T2.out])
          refine bodyPost_ret (v := .tuple #[.agg #[.int .i64 0, .slice none 0 0], .bool false]) (by simp [results, Try.results160, go_sem, *]) rfl (relOut_none HZ.out rfl (by refine x'z ?_; repeat (with_reducible (first | exact x'a _ _ | exact x'b _ | exact x'c (by assumption) | refine x'd ?_ (by assumption) | refine x'e ?_ _ | refine x'f ?_ _ | refine x'g ?_ | refine x'h ?_ ?_ _ | refine x'i ?_ _ | refine x'j ?_ | refine x'k ?_ _ | refine x'l ?_ _ _ | refine x'm ?_ | assumption | (refine x'n ?_; omega) | omega))))
        · go_wp2_with (go_at_call 189; refine (AreValidValues_any lx hv).mono ?_; rintro e w1 ⟨rfl, rfl⟩; rw [T2.out])
          exact ⟨⟨k + 1, by go_num, by omega, Lib.hid (by simpa using He.out), (by refine x'z ?_; repeat (with_reducible (first | exact x'a _ _ | exact x'b _ | exact x'c (by assumption) | refine x'd ?_ (by assumption) | refine x'e ?_ _ | refine x'f ?_ _ | refine x'g ?_ | refine x'h ?_ ?_ _ | refine x'i ?_ _ | refine x'j ?_ | refine x'k ?_ _ | refine x'l ?_ _ _ | refine x'm ?_ | assumption | (refine x'n ?_; omega) | omega)))⟩, by simp [intOf]; omega⟩
    · have HRI := Lib.hid (show rowsIn a rows = true by rw [← Hj.out, rowsIn_end hlt])
      have RB := RW.toExt hy
      have hz0 := RB.1
      clear l1 a1 a1' f1
      go_wp2_with fail
      refine (sorted_any rows.length A c rows wr (Nat.le_refl _) hx hcap Hxl.out (h1.toExt hyw)).mono ?_
      rintro e w1 ⟨v1, F1, rfl, hx1, hS1, hN1, hF1⟩
      obtain ⟨A1, c1, rfl, hc1, _, rv1⟩ := hS1.view (V := vSl 1 vI) (sSl_v sI_v)
      have hsl := sortR_length rows
      have Hsl := Lib.hid (fun x (hx : x ∈ sortR rows) => Hxl.out x (mem_sortR.1 hx))
      have HNR := Lib.hid (newR_eq HRI.out)
      obtain ⟨sr, hsr⟩ : ∃ s, sortR rows = s := ⟨_, rfl⟩
      rw [hsr] at hS1 rv1 hsl Hsl HNR hc1 ⊢
      clear hsr
      have RB1 := RB.toExt hx1
      have hs1x : sr.length ≤ 1000000000 := by omega
      go_upto_region 8 with fail
      refine wp_name ?_
      intro w2 hw2
      have hx2 : ∃ y, w2 = ext w1 y := by rw [hw2.out]; exact (by refine x'z ?_; repeat (with_reducible (first | exact x'a _ _ | exact x'b _ | exact x'c (by assumption) | refine x'd ?_ (by assumption) | refine x'e ?_ _ | refine x'f ?_ _ | refine x'g ?_ | refine x'h ?_ ?_ _ | refine x'i ?_ _ | refine x'j ?_ | refine x'k ?_ _ | refine x'l ?_ _ _ | refine x'm ?_ | assumption | (refine x'n ?_; omega) | omega)))
      have X2 : BoxAt w2 w1.heap.size #[.int .i64 a, .slice A1 sr.length c1] := by rw [hw2.out]; exact (by repeat (with_reducible (first | assumption | exact BoxAt.new _ _ _ | apply BoxAt.set2 | refine BoxAt.set2' ?_ (by omega) | apply BoxAt.setP0 | apply BoxAt.setP1 | refine BoxAt.setO ?_ (by omega) | refine BoxAt.alloc ?_ _ | refine BoxAt.drew ?_ | refine BoxAt.toExt ?_ (by assumption))))
      have R2 := RB1.toExt hx2
      have rv2 := rv1.toExt hx2
      have hz1 : w.heap.size < w1.heap.size := RB1.1
      clear hw2
      obtain ⟨l1, a1, a1', f1⟩ := bx2 X2
      obtain ⟨l2, a2, a2', f2⟩ := bx2 R2
      obtain ⟨t, ht⟩ : ∃ t, rowsB a sr = t := ⟨_, rfl⟩
      have HT := Lib.hid ht
      rw [ht] at HNR
      have HS1 := Lib.hid (hS1.toExt hx2)
      have HN1 := Lib.hid hN1
      have HF1 := Lib.hid hF1
      have hxw : ∃ y, w2 = ext w y := trans_ext hyw (trans_ext hx1 hx2)
      have hzw := size_of_ext hyw
      clear ht hS1 hN1 hF1
      cases t
      · have HZ := Lib.hid (show newR a rows = none by rw [HNR.out]; rfl)
        go_wp2_with (go_at_call 122; refine (IsValidRelation_w hs1x Hsl.out rv2).mono ?_; rintro e w3 ⟨rfl, hx3⟩; rw [HT.out]; obtain ⟨l3, a3, a3', f3⟩ := bx2 (R2.toExt hx3))
        refine bodyPost_ret (v := .tuple #[.agg #[.int .i64 0, .slice none 0 0], .bool false]) (by simp [results, Try.results160, go_sem, *]) rfl (relOut_none HZ.out rfl (by refine x'z ?_; repeat (with_reducible (first | exact x'a _ _ | exact x'b _ | exact x'c (by assumption) | refine x'd ?_ (by assumption) | refine x'e ?_ _ | refine x'f ?_ _ | refine x'g ?_ | refine x'h ?_ ?_ _ | refine x'i ?_ _ | refine x'j ?_ | refine x'k ?_ _ | refine x'l ?_ _ _ | refine x'm ?_ | assumption | (refine x'n ?_; omega) | omega))))
      · have HZ := Lib.hid (show newR a rows = some (a, sr) by rw [HNR.out]; rfl)
        go_wp2_with (go_at_call 122; refine (IsValidRelation_w hs1x Hsl.out rv2).mono ?_; rintro e w3 ⟨rfl, hx3⟩; rw [HT.out]; obtain ⟨l3, a3, a3', f3⟩ := bx2 (R2.toExt hx3); obtain ⟨l4, a4, a4', f4⟩ := bx2 (X2.toExt hx3))
        refine bodyPost_ret (v := .tuple #[.agg #[.int .i64 a, .slice A1 sr.length c1], .bool true]) (by simp [results, Try.results160, go_sem, *]) rfl ⟨_, _, F1, by rw [HZ.out]; rfl, (by refine x'z ?_; repeat (with_reducible (first | exact x'a _ _ | exact x'b _ | exact x'c (by assumption) | refine x'd ?_ (by assumption) | refine x'e ?_ _ | refine x'f ?_ _ | refine x'g ?_ | refine x'h ?_ ?_ _ | refine x'i ?_ _ | refine x'j ?_ | refine x'k ?_ _ | refine x'l ?_ _ _ | refine x'm ?_ | assumption | (refine x'n ?_; omega) | omega))), ?_, HN1.out, fun b hb => ?_⟩
        · rw [HZ.out]
          refine sRel_mk (OD.chg (E := sII) (G := [w.heap.size]) ⟨_, rfl, HS1.out.toExt hx3⟩ (by repeat (with_reducible (first | exact Chg.refl _ _ | refine Chg.trans0 ?_ (by assumption) | refine Chg.extS ?_ _ | refine Chg.alloc ?_ _ | refine Chg.drew ?_ | refine Chg.setCell ?_ (.inl (by simp)) _))) ?_)
          intro b hb h
          have := HF1.out b hb
          rw [List.mem_singleton.1 h] at this
          omega
        · have := HF1.out b hb
          omega
end Go.Proofs.Ytfigcfajkilhiaa

/- Relations made of rows by the reference; rows found in relations; relations projected: the program's way and the reference's. -/
namespace Go.Proofs.Ytfigcfajkilhiaa
open Go.RowKit

set_option maxRecDepth 100000 in
set_option maxHeartbeats 8000000 in
theorem specNewRelation_any {a : Int} {A : Option Addr} {c : Nat} {rows : List (List Int)} {w : World} (ha : I64 a) (hx : rows.length ≤ 1000000000) (hcap : rows.length ≤ c) (hxl : ∀ x ∈ rows, x.length ≤ 1000000000) (h1 : RII w A rows) :
    Calls Try.prog 102 #[.int .i64 a, .slice A rows.length c] w (RelOut (newR a rows) w) := by
  obtain ⟨ha1, ha2⟩ := ha
  have Hxl := Lib.hid hxl
  clear hxl
  go_enter Try.func102, Try.ntmps102
  go_upto_region 1 with fail
  refine wp_name ?_
  intro W hW
  have xW : ∃ y, W = ext w y := by rw [hW.out]; exact (by refine x'z ?_; repeat (with_reducible (first | exact x'a _ _ | exact x'b _ | exact x'c (by assumption) | refine x'd ?_ (by assumption) | refine x'e ?_ _ | refine x'f ?_ _ | refine x'g ?_ | refine x'h ?_ ?_ _ | refine x'i ?_ _ | refine x'j ?_ | refine x'k ?_ _ | refine x'l ?_ _ _ | refine x'm ?_ | assumption | (refine x'n ?_; omega) | omega)))
  have RW : BoxAt W w.heap.size #[.int .i64 0, .slice none 0 0] := by rw [hW.out]; exact (by repeat (with_reducible (first | assumption | exact BoxAt.new _ _ _ | apply BoxAt.set2 | refine BoxAt.set2' ?_ (by omega) | apply BoxAt.setP0 | apply BoxAt.setP1 | refine BoxAt.setO ?_ (by omega) | refine BoxAt.alloc ?_ _ | refine BoxAt.drew ?_ | refine BoxAt.toExt ?_ (by assumption))))
  clear hW
  go_wp2_with fail
  go_loopw [6] (fun i wr => ∃ k : Nat, i = .int .i64 k ∧ k ≤ rows.length ∧ Hid (rowsIn a (rows.drop k) = rowsIn a rows) ∧ ∃ y, wr = ext W y) (fun i _ => rows.length - (intOf i).toNat)
  case atStart => exact ⟨0, rfl, by omega, Lib.hid (by simp), refl_ext W⟩
  case round =>
    obtain ⟨k, rfl, hk, Hj, hy⟩ := hrel
    have hyw := trans_ext xW hy
    obtain ⟨l1, a1, a1', f1⟩ := bx2 (RW.toExt hy)
    by_cases hlt : k < rows.length
    · obtain ⟨b, o, A1, c1, rfl, hb, hc, hv⟩ := (h1.toExt hyw).atV hlt
      have lx := Hxl.out rows[k] (List.getElem_mem hlt)
      have e := Hj.out
      rw [rowsIn_step hlt] at e
      obtain ⟨x, hx1⟩ : ∃ x, rows[k] = x := ⟨_, rfl⟩
      rw [hx1] at hc hv lx e
      unfold okRow at e
      obtain ⟨t1, ht1⟩ : ∃ t, decide ((x.length : Int) = a) = t := ⟨_, rfl⟩
      obtain ⟨t2, ht2⟩ : ∃ t, rowV x = t := ⟨_, rfl⟩
      have hq : ((x.length : Int) != a) = !t1 := by rw [← ht1]; by_cases q : (x.length : Int) = a <;> simp [q]
      rw [ht1, ht2] at e
      have T2 := Lib.hid ht2
      have He := Lib.hid e
      clear e ht1 ht2 hx1
      cases t1
      · have HZ := Lib.hid (newR_bad (a := a) (rows := rows) (by rw [← He.out]; rfl))
        go_wp2
        refine bodyPost_ret (v := .tuple #[.agg #[.int .i64 0, .slice none 0 0], .bool false]) (by simp [results, Try.results102, go_sem, *]) rfl (relOut_none HZ.out rfl (by refine x'z ?_; repeat (with_reducible (first | exact x'a _ _ | exact x'b _ | exact x'c (by assumption) | refine x'd ?_ (by assumption) | refine x'e ?_ _ | refine x'f ?_ _ | refine x'g ?_ | refine x'h ?_ ?_ _ | refine x'i ?_ _ | refine x'j ?_ | refine x'k ?_ _ | refine x'l ?_ _ _ | refine x'm ?_ | assumption | (refine x'n ?_; omega) | omega))))
      · cases t2
        · have HZ := Lib.hid (newR_bad (a := a) (rows := rows) (by rw [← He.out]; rfl))
          go_wp2_with (go_at_call 140; refine (specAreValidValues_any lx hv).mono ?_; rintro e w1 ⟨rfl, rfl⟩; rw [T2.out])
          refine bodyPost_ret (v := .tuple #[.agg #[.int .i64 0, .slice none 0 0], .bool false]) (by simp [results, Try.results102, go_sem, *]) rfl (relOut_none HZ.out rfl (by refine x'z ?_; repeat (with_reducible (first | exact x'a _ _ | exact x'b _ | exact x'c (by assumption) | refine x'd ?_ (by assumption) | refine x'e ?_ _ | refine x'f ?_ _ | refine x'g ?_ | refine x'h ?_ ?_ _ | refine x'i ?_ _ | refine x'j ?_ | refine x'k ?_ _ | refine x'l ?_ _ _ | refine x'm ?_ | assumption | (refine x'n ?_; omega) | omega))))
        · go_wp2_with (go_at_call 140; refine (specAreValidValues_any lx hv).mono ?_; rintro e w1 ⟨rfl, rfl⟩; rw [T2.out])
          exact ⟨⟨k + 1, by go_num, by omega, Lib.hid (by simpa using He.out), (by refine x'z ?_; repeat (with_reducible (first | exact x'a _ _ | exact x'b _ | exact x'c (by assumption) | refine x'd ?_ (by assumption) | refine x'e ?_ _ | refine x'f ?_ _ | refine x'g ?_ | refine x'h ?_ ?_ _ | refine x'i ?_ _ | refine x'j ?_ | refine x'k ?_ _ | refine x'l ?_ _ _ | refine x'm ?_ | assumption | (refine x'n ?_; omega) | omega)))⟩, by simp [intOf]; omega⟩
    · have HRI := Lib.hid (show rowsIn a rows = true by rw [← Hj.out, rowsIn_end hlt])
      have RB := RW.toExt hy
      have hz0 := RB.1
      clear l1 a1 a1' f1
      go_wp2_with fail
      refine (l5Sort_any rows.length A c rows wr (Nat.le_refl _) hx hcap Hxl.out (h1.toExt hyw)).mono ?_
      rintro e w1 ⟨A1, c1, rfl, hc1, rv1, hx1⟩
      have hsl := sortR_length rows
      have Hsl := Lib.hid (fun x (hx : x ∈ sortR rows) => Hxl.out x (mem_sortR.1 hx))
      have HNR := Lib.hid (newR_eq HRI.out)
      obtain ⟨sr, hsr⟩ : ∃ s, sortR rows = s := ⟨_, rfl⟩
      rw [hsr] at rv1 hsl Hsl HNR hc1 ⊢
      clear hsr
      have hs1x : sr.length ≤ 1000000000 := by omega
      go_wp2_with fail
      refine (l5Copy_any (z := a) hs1x Hsl.out rv1).mono ?_
      rintro e w1' ⟨u0, u1, F1, rfl, hx1', hS1, hN1, hF1⟩
      obtain ⟨A2, c2, rfl, rfl, hS2⟩ := sRel_form hS1
      have rv2 := (vII_get (sII_v _ _ _ hS2)).2
      have RB1 := RB.toExt (trans_ext hx1 hx1')
      have hzc := size_of_ext hx1
      go_upto_region 7 with fail
      refine wp_name ?_
      intro w2 hw2
      have hx2 : ∃ y, w2 = ext w1' y := by rw [hw2.out]; exact (by refine x'z ?_; repeat (with_reducible (first | exact x'a _ _ | exact x'b _ | exact x'c (by assumption) | refine x'd ?_ (by assumption) | refine x'e ?_ _ | refine x'f ?_ _ | refine x'g ?_ | refine x'h ?_ ?_ _ | refine x'i ?_ _ | refine x'j ?_ | refine x'k ?_ _ | refine x'l ?_ _ _ | refine x'm ?_ | assumption | (refine x'n ?_; omega) | omega)))
      have X2 : BoxAt w2 w1'.heap.size #[.int .i64 a, .slice A2 sr.length c2] := by rw [hw2.out]; exact (by repeat (with_reducible (first | assumption | exact BoxAt.new _ _ _ | apply BoxAt.set2 | refine BoxAt.set2' ?_ (by omega) | apply BoxAt.setP0 | apply BoxAt.setP1 | refine BoxAt.setO ?_ (by omega) | refine BoxAt.alloc ?_ _ | refine BoxAt.drew ?_ | refine BoxAt.toExt ?_ (by assumption))))
      have R2 := RB1.toExt hx2
      have rv3 := rv2.toExt hx2
      have hz1 : w.heap.size < w1'.heap.size := RB1.1
      clear hw2
      obtain ⟨l1, a1, a1', f1⟩ := bx2 X2
      obtain ⟨l2, a2, a2', f2⟩ := bx2 R2
      obtain ⟨t, ht⟩ : ∃ t, rowsB a sr = t := ⟨_, rfl⟩
      have HT := Lib.hid ht
      rw [ht] at HNR
      have HS1 := Lib.hid (OD.toExt hS2 hx2)
      have HN1 := Lib.hid hN1
      have HF1 := Lib.hid hF1
      have hxw : ∃ y, w2 = ext w y := trans_ext hyw (trans_ext hx1 (trans_ext hx1' hx2))
      have hzw := size_of_ext hyw
      clear ht hS1 hS2 hN1 hF1
      cases t
      · have HZ := Lib.hid (show newR a rows = none by rw [HNR.out]; rfl)
        go_wp2_with (go_at_call 57; refine (specIsValidRelation_w hs1x Hsl.out rv3).mono ?_; rintro e w3 ⟨rfl, hx3⟩; rw [HT.out]; obtain ⟨l3, a3, a3', f3⟩ := bx2 (R2.toExt hx3))
        refine bodyPost_ret (v := .tuple #[.agg #[.int .i64 0, .slice none 0 0], .bool false]) (by simp [results, Try.results102, go_sem, *]) rfl (relOut_none HZ.out rfl (by refine x'z ?_; repeat (with_reducible (first | exact x'a _ _ | exact x'b _ | exact x'c (by assumption) | refine x'd ?_ (by assumption) | refine x'e ?_ _ | refine x'f ?_ _ | refine x'g ?_ | refine x'h ?_ ?_ _ | refine x'i ?_ _ | refine x'j ?_ | refine x'k ?_ _ | refine x'l ?_ _ _ | refine x'm ?_ | assumption | (refine x'n ?_; omega) | omega))))
      · have HZ := Lib.hid (show newR a rows = some (a, sr) by rw [HNR.out]; rfl)
        go_wp2_with (go_at_call 57; refine (specIsValidRelation_w hs1x Hsl.out rv3).mono ?_; rintro e w3 ⟨rfl, hx3⟩; rw [HT.out]; obtain ⟨l3, a3, a3', f3⟩ := bx2 (R2.toExt hx3); obtain ⟨l4, a4, a4', f4⟩ := bx2 (X2.toExt hx3))
        refine bodyPost_ret (v := .tuple #[.agg #[.int .i64 a, .slice A2 sr.length c2], .bool true]) (by simp [results, Try.results102, go_sem, *]) rfl ⟨_, _, F1, by rw [HZ.out]; rfl, (by refine x'z ?_; repeat (with_reducible (first | exact x'a _ _ | exact x'b _ | exact x'c (by assumption) | refine x'd ?_ (by assumption) | refine x'e ?_ _ | refine x'f ?_ _ | refine x'g ?_ | refine x'h ?_ ?_ _ | refine x'i ?_ _ | refine x'j ?_ | refine x'k ?_ _ | refine x'l ?_ _ _ | refine x'm ?_ | assumption | (refine x'n ?_; omega) | omega))), ?_, HN1.out, fun b hb => ?_⟩
        · rw [HZ.out]
          refine sRel_mk (OD.chg (E := sII) (G := [w.heap.size]) (OD.toExt HS1.out hx3) (by repeat (with_reducible (first | exact Chg.refl _ _ | refine Chg.trans0 ?_ (by assumption) | refine Chg.extS ?_ _ | refine Chg.alloc ?_ _ | refine Chg.drew ?_ | refine Chg.setCell ?_ (.inl (by simp)) _))) ?_)
          intro b hb h
          have := HF1.out b hb
          rw [List.mem_singleton.1 h] at this
          omega
        · have := HF1.out b hb
          omega
theorem conB {a : Int} {rows : List (List Int)} {row : List Int} {b t : Bool} (h : AscR rows → b = decide (row ∈ rows)) (ht : rowsB a rows = t) : (t && b) = (rowsB a rows && decide (row ∈ rows)) := by
  rw [ht]
  cases t with
  | false => rfl
  | true => rw [h (rowsB_iff.1 ht).2.2.2.2]
set_option maxHeartbeats 1000000 in
theorem ContainsRow_any {a : Int} {A A' : Option Addr} {c c' : Nat} {rows : List (List Int)} {row : List Int} {w : World} (hx : rows.length ≤ 1000000000) (hxl : ∀ x ∈ rows, x.length ≤ 1000000000) (h1 : RII w A rows) (hr : row.length ≤ 1000000000) (h2 : RI w A' row) :
    Calls Try.prog 78 #[.agg #[.int .i64 a, .slice A rows.length c], .slice A' row.length c'] w fun e w' => e = .returned (.bool (rowsB a rows && decide (row ∈ rows))) ∧ ∃ y, w' = ext w y := by
  have Hxl := Lib.hid hxl
  obtain ⟨t, ht⟩ : ∃ t, rowsB a rows = t := ⟨_, rfl⟩
  have HT := Lib.hid ht
  clear hxl ht
  go_enter Try.func78, Try.ntmps78
  go_upto_region 1 with fail
  refine wp_name ?_
  intro W hW
  have xW : ∃ y, W = ext w y := by rw [hW.out]; exact (by refine x'z ?_; repeat (with_reducible (first | exact x'a _ _ | exact x'b _ | exact x'c (by assumption) | refine x'd ?_ (by assumption) | refine x'e ?_ _ | refine x'f ?_ _ | refine x'g ?_ | refine x'h ?_ ?_ _ | refine x'i ?_ _ | refine x'j ?_ | refine x'k ?_ _ | refine x'l ?_ _ _ | refine x'm ?_ | assumption | (refine x'n ?_; omega) | omega)))
  have BW0 : BoxAt W (w.heap.size) #[.int .i64 a, .slice A rows.length c] := by rw [hW.out]; refine ⟨?_, fun j => ?_, fun j => ?_⟩ <;> go_simp
  obtain ⟨lW0, bW0, fW0⟩ := BW0
  have cW0_0 : W.cell? ⟨w.heap.size, 0, none⟩ = some (.int .i64 a) := bW0 0
  have cW0_1 : W.cell? ⟨w.heap.size, 1, none⟩ = some (.slice A rows.length c) := bW0 1
  clear hW
  have PW : BoxAt W w.heap.size #[.int .i64 a, .slice A rows.length c] := ⟨lW0, bW0, fW0⟩
  go_wp2_with fail
  refine (place_any hx Hxl.out (h1.toExt xW) hr (h2.toExt xW)).mono ?_
  rintro e w1 ⟨k, b, rfl, _, hb, _, hx1⟩
  have HB := Lib.hid (conB hb HT.out)
  obtain ⟨l1, a1, a1', f1⟩ := bx2 (PW.toExt hx1)
  clear hb lW0 bW0 fW0 cW0_0 cW0_1
  cases t
  · go_wp2_with (go_at_call 122; refine (IsValidRelation_w hx Hxl.out (h1.toExt (trans_ext xW hx1))).mono ?_; rintro e w3 ⟨rfl, hx3⟩; rw [HT.out])
    go_ret
    exact ⟨by rw [← HB.out]; rfl, (by refine x'z ?_; repeat (with_reducible (first | exact x'a _ _ | exact x'b _ | exact x'c (by assumption) | refine x'd ?_ (by assumption) | refine x'e ?_ _ | refine x'f ?_ _ | refine x'g ?_ | refine x'h ?_ ?_ _ | refine x'i ?_ _ | refine x'j ?_ | refine x'k ?_ _ | refine x'l ?_ _ _ | refine x'm ?_ | assumption | (refine x'n ?_; omega) | omega)))⟩
  · go_wp2_with (go_at_call 122; refine (IsValidRelation_w hx Hxl.out (h1.toExt (trans_ext xW hx1))).mono ?_; rintro e w3 ⟨rfl, hx3⟩; rw [HT.out])
    go_ret
    exact ⟨by rw [← HB.out]; rfl, (by refine x'z ?_; repeat (with_reducible (first | exact x'a _ _ | exact x'b _ | exact x'c (by assumption) | refine x'd ?_ (by assumption) | refine x'e ?_ _ | refine x'f ?_ _ | refine x'g ?_ | refine x'h ?_ ?_ _ | refine x'i ?_ _ | refine x'j ?_ | refine x'k ?_ _ | refine x'l ?_ _ _ | refine x'm ?_ | assumption | (refine x'n ?_; omega) | omega)))⟩
set_option maxHeartbeats 1000000 in
theorem specContainsRow_any {a : Int} {A A' : Option Addr} {c c' : Nat} {rows : List (List Int)} {row : List Int} {w : World} (hx : rows.length ≤ 1000000000) (hxl : ∀ x ∈ rows, x.length ≤ 1000000000) (h1 : RII w A rows) (hr : row.length ≤ 1000000000) (h2 : RI w A' row) :
    Calls Try.prog 158 #[.agg #[.int .i64 a, .slice A rows.length c], .slice A' row.length c'] w fun e w' => e = .returned (.bool (rowsB a rows && decide (row ∈ rows))) ∧ ∃ y, w' = ext w y := by
  have Hxl := Lib.hid hxl
  obtain ⟨t, ht⟩ : ∃ t, rowsB a rows = t := ⟨_, rfl⟩
  have HT := Lib.hid ht
  clear hxl ht
  go_enter Try.func158, Try.ntmps158
  go_upto_region 1 with fail
  refine wp_name ?_
  intro W hW
  have xW : ∃ y, W = ext w y := by rw [hW.out]; exact (by refine x'z ?_; repeat (with_reducible (first | exact x'a _ _ | exact x'b _ | exact x'c (by assumption) | refine x'd ?_ (by assumption) | refine x'e ?_ _ | refine x'f ?_ _ | refine x'g ?_ | refine x'h ?_ ?_ _ | refine x'i ?_ _ | refine x'j ?_ | refine x'k ?_ _ | refine x'l ?_ _ _ | refine x'm ?_ | assumption | (refine x'n ?_; omega) | omega)))
  have BW0 : BoxAt W (w.heap.size) #[.int .i64 a, .slice A rows.length c] := by rw [hW.out]; refine ⟨?_, fun j => ?_, fun j => ?_⟩ <;> go_simp
  obtain ⟨lW0, bW0, fW0⟩ := BW0
  have cW0_0 : W.cell? ⟨w.heap.size, 0, none⟩ = some (.int .i64 a) := bW0 0
  have cW0_1 : W.cell? ⟨w.heap.size, 1, none⟩ = some (.slice A rows.length c) := bW0 1
  clear hW
  have PW : BoxAt W w.heap.size #[.int .i64 a, .slice A rows.length c] := ⟨lW0, bW0, fW0⟩
  cases t
  · go_wp2_with (go_at_call 57; refine (specIsValidRelation_w hx Hxl.out (h1.toExt xW)).mono ?_; rintro e w3 ⟨rfl, hx3⟩; rw [HT.out])
    go_ret
    exact ⟨by rw [HT.out]; rfl, (by refine x'z ?_; repeat (with_reducible (first | exact x'a _ _ | exact x'b _ | exact x'c (by assumption) | refine x'd ?_ (by assumption) | refine x'e ?_ _ | refine x'f ?_ _ | refine x'g ?_ | refine x'h ?_ ?_ _ | refine x'i ?_ _ | refine x'j ?_ | refine x'k ?_ _ | refine x'l ?_ _ _ | refine x'm ?_ | assumption | (refine x'n ?_; omega) | omega)))⟩
  · go_wp2_with (first
      | (go_at_call 57; refine (specIsValidRelation_w hx Hxl.out (h1.toExt xW)).mono ?_; rintro e w3 ⟨rfl, hx3⟩; rw [HT.out]; obtain ⟨l3, a3, a3', f3⟩ := bx2 (PW.toExt hx3))
      | (go_at_call 118; refine (l5Place_any hx Hxl.out (h1.toExt (trans_ext xW hx3)) hr (h2.toExt (trans_ext xW hx3))).mono ?_; rintro e w1 ⟨k, b, rfl, _, hb, _, hx1⟩; have HB := Lib.hid (conB hb HT.out); clear hb))
    go_ret
    exact ⟨by rw [← HB.out]; rfl, (by refine x'z ?_; repeat (with_reducible (first | exact x'a _ _ | exact x'b _ | exact x'c (by assumption) | refine x'd ?_ (by assumption) | refine x'e ?_ _ | refine x'f ?_ _ | refine x'g ?_ | refine x'h ?_ ?_ _ | refine x'i ?_ _ | refine x'j ?_ | refine x'k ?_ _ | refine x'l ?_ _ _ | refine x'm ?_ | assumption | (refine x'n ?_; omega) | omega)))⟩
end Go.Proofs.Ytfigcfajkilhiaa

/- Rows of rows: one row read, changed in place, or exchanged for another. No program in it. -/
namespace Go.Proofs.Ytfigcfajkilhiaa
open Go.RowKit

section
variable {α : Type} {te size te2 : Nat} {E : SE α} [SMono E] {w : World} {ds : List (List α)} {F : List Nat} {g n cap k : Nat}
/-- row k: its header's cell, its memory; a row changed in place; another row put in its place -/
theorem SV.row (h : SV te 1 (sSl te2 size E) w (.slice (some ⟨g, 0, none⟩) n cap) ds F) (hN : F.Nodup) (hk : k < ds.length) : ∃ v Fk, g < w.heap.size ∧ w.cell? ⟨g, k, none⟩ = some v ∧ (∀ j, w.frozen? ⟨g, j, none⟩ = false) ∧ SV te2 size E w v ds[k] Fk ∧ (∀ b ∈ Fk, b ∈ F) ∧ Fk.Nodup ∧ g ∉ Fk ∧ g ∈ F ∧
    (∀ w' d', SV te2 size E w' v d' Fk → Chg Fk w w' → SV te 1 (sSl te2 size E) w' (.slice (some ⟨g, 0, none⟩) n cap) (ds.set k d') F) ∧
    (∀ w' v' d' F', Chg Fk w w' → SV te2 size E w' v' d' F' → F'.Nodup → (∀ b ∈ F', b ∈ Fk ∨ w.heap.size ≤ b) → ∃ F2, SV te 1 (sSl te2 size E) (w'.setCell ⟨g, k, none⟩ v') (.slice (some ⟨g, 0, none⟩) n cap) (ds.set k d') F2 ∧ F2.Nodup ∧ (∀ b ∈ F2, b ∈ F ∨ b ∈ F')) := by
  obtain ⟨_, _, e0, _, _⟩ := h.form
  injection e0 with _ e0 _
  subst e0
  obtain ⟨vs, F2, h1, h2, h3⟩ := h
  obtain ⟨c, vs1, vs2, G1, G2, Fk, e1, e2, e3, e4, e5, e6, e7⟩ := elems_upd (c' := []) (d' := ds[k]) (Fk := []) (w' := w) h2 hk
  have hfp : fpOf (.slice (some ⟨g, 0, none⟩) ds.length cap) = [g] := rfl
  rw [hfp] at h3
  subst h3 e4
  have hN' := hN
  rw [List.singleton_append, List.nodup_cons, List.nodup_append, List.nodup_append] at hN'
  obtain ⟨n1, n2, ⟨n3, n4, n5⟩, n6⟩ := hN'
  have hgk : g ∉ Fk := fun hm => n1 (by simp [hm])
  have hlt := (h1.lt g rfl).2
  have hlen := elems_length h2
  obtain ⟨v, hcv, hv⟩ := e5 hk
  subst hcv
  have hcell : w.cell? ⟨g, k, none⟩ = some v := by
    rw [h1.cellAt _ (by omega), e1, List.getElem?_append_right (by omega), e2]
    simp
  refine ⟨v, Fk, hlt, hcell, fun j => h1.frozenAt j, hv, fun b hb => by simp [hb], n3, hgk, by simp, fun w' d' hE hC => ?_, fun w' v' d' F' hC hE hNF hF' => ?_⟩
  · refine ⟨vs, G1 ++ (Fk ++ G2), ?_, ?_, by rw [hfp]⟩
    · rw [List.length_set]
      refine ownsRow_keepB h1 fun b hb => hC.block b ?_ ?_
      · rw [hfp] at hb; rw [List.mem_singleton.1 hb]; exact hlt
      · rw [hfp] at hb; rw [List.mem_singleton.1 hb]; exact hgk
    · rw [e1, set_split hk]
      refine elems_join (elems_keep e6 fun b hb => hC.block b (elems_lt e6 b hb) ?_) e3 ⟨v, rfl, hE⟩ (elems_keep e7 fun b hb => hC.block b (elems_lt e7 b hb) ?_)
      · exact fun hf => n6 b hb b (by simp [hf]) rfl
      · exact fun hf => n5 b hf b hb rfl
  · have hg1 : ∀ b, b ∈ G1 → b < w.heap.size := fun b hb => elems_lt e6 b hb
    have hg2 : ∀ b, b ∈ G2 → b < w.heap.size := fun b hb => elems_lt e7 b hb
    have hgF : g ∉ F' := fun hb => by
      rcases hF' g hb with h | h
      · exact hgk h
      · omega
    have hown : w'.ownsRow 0 te 1 (.slice (some ⟨g, 0, none⟩) ds.length cap) ds.length vs := ownsRow_keepB h1 fun b hb => hC.block b (by rw [hfp] at hb; rw [List.mem_singleton.1 hb]; exact hlt) (by rw [hfp] at hb; rw [List.mem_singleton.1 hb]; exact hgk)
    obtain ⟨h4, h5⟩ := hown.stored k v'
    have hC2 : Chg [g] w' (w'.setCell ⟨g, k, none⟩ v') := Chg.ofGrown h5 fun k hk => by simpa using hk.symm
    have a6 : elems 1 (sSl te2 size E) (w'.setCell ⟨g, k, none⟩ v') vs1 (ds.take k) G1 := elems_keep (elems_keep e6 fun b hb => hC.block b (hg1 b hb) (fun hf => n6 b hb b (by simp [hf]) rfl)) fun b hb => hC2.block b (Nat.lt_of_lt_of_le (hg1 b hb) hC.size) (fun hf => n1 (by rw [← List.mem_singleton.1 hf]; simp [hb]))
    have a7 : elems 1 (sSl te2 size E) (w'.setCell ⟨g, k, none⟩ v') vs2 (ds.drop (k + 1)) G2 := elems_keep (elems_keep e7 fun b hb => hC.block b (hg2 b hb) (fun hf => n5 b hf b hb rfl)) fun b hb => hC2.block b (Nat.lt_of_lt_of_le (hg2 b hb) hC.size) (fun hf => n1 (by rw [← List.mem_singleton.1 hf]; simp [hb]))
    have aE : SV te2 size E (w'.setCell ⟨g, k, none⟩ v') v' d' F' := hE.chg hC2 (fun b hb hf => hgF (by rw [← List.mem_singleton.1 hf]; exact hb))
    refine ⟨[g] ++ (G1 ++ (F' ++ G2)), ⟨vs.set k v', G1 ++ (F' ++ G2), by rw [List.length_set]; exact h4, ?_, rfl⟩, ?_, ?_⟩
    · have ev : vs.set k v' = vs1 ++ ([v'] ++ vs2) := by
        rw [e1, List.set_append_right _ _ (by omega), e2, show k - k * 1 = 0 by omega]
        simp
      rw [ev, set_split hk]
      exact elems_join a6 rfl ⟨v', rfl, aE⟩ a7
    · rw [List.singleton_append, List.nodup_cons, List.nodup_append, List.nodup_append]
      refine ⟨fun hm => ?_, n2, ⟨hNF, n4, fun a ha b hb e => ?_⟩, fun a ha b hb e => ?_⟩
      · rcases List.mem_append.1 hm with h | h
        · exact n1 (by simp [h])
        · rcases List.mem_append.1 h with h | h
          · exact hgF h
          · exact n1 (by simp [h])
      · subst e
        rcases hF' a ha with h | h
        · exact n5 a h a hb rfl
        · have := hg2 a hb; omega
      · subst e
        rcases List.mem_append.1 hb with h | h
        · rcases hF' a h with h | h
          · exact n6 a ha a (by simp [h]) rfl
          · have := hg1 a ha; omega
        · exact n6 a ha a (by simp [h]) rfl
    · intro b hb
      rcases List.mem_append.1 hb with h | h
      · exact .inl (by simp at h; simp [h])
      · rcases List.mem_append.1 h with h | h
        · exact .inl (by simp [h])
        · rcases List.mem_append.1 h with h | h
          · exact .inr h
          · exact .inl (by simp [h])
end
/-- what a cell holds, whatever it is: for a region that reads a cell and writes it behind that -/
def cellv (w : World) (a : Addr) : Value := (w.cell? a).getD undef
theorem cellv_some {w : World} {a : Addr} (h : ∃ u, w.cell? a = some u) : w.cell? a = some (cellv w a) := by
  obtain ⟨u, h⟩ := h
  unfold cellv
  rw [h]
  rfl
theorem cellv_eq {w : World} {a : Addr} {u : Value} (h : w.cell? a = some u) : cellv w a = u := by
  unfold cellv
  rw [h]
  rfl
end Go.Proofs.Ytfigcfajkilhiaa

/- Databases: when they are valid; tables found and put. No program in it. -/
namespace Go.Proofs.Ytfigcfajkilhiaa
open Go.RowKit

abbrev Td := ByteArray × Rd
abbrev Dbd := List Td
/-- the order of texts -/
def sLt (a b : ByteArray) : Bool := Op.bytesLess a.toList b.toList
theorem bl_irr : ∀ l : List UInt8, Op.bytesLess l l = false
  | [] => rfl
  | a :: l => by simp [Op.bytesLess, bl_irr l]
theorem bl_trans : ∀ {a b c : List UInt8}, Op.bytesLess a b = true → Op.bytesLess b c = true → Op.bytesLess a c = true
  | _, [], _, h, _ => by simp [Op.bytesLess] at h
  | _, _ :: _, [], _, k => by simp [Op.bytesLess] at k
  | [], _ :: _, _ :: _, _, _ => by simp [Op.bytesLess]
  | a :: x, b :: y, c :: z, h, k => by
    simp only [Op.bytesLess, Bool.or_eq_true, decide_eq_true_eq, Bool.and_eq_true, beq_iff_eq] at h k ⊢
    rcases h with h | ⟨rfl, h⟩
    · rcases k with k | ⟨rfl, k⟩
      · exact .inl (UInt8.lt_trans h k)
      · exact .inl h
    · rcases k with k | ⟨rfl, k⟩
      · exact .inl k
      · exact .inr ⟨rfl, bl_trans h k⟩
theorem bl_tot : ∀ {a b : List UInt8}, Op.bytesLess a b = false → Op.bytesLess b a = false → a = b
  | [], [], _, _ => rfl
  | [], _ :: _, h, _ => by simp [Op.bytesLess] at h
  | _ :: _, [], _, h => by simp [Op.bytesLess] at h
  | a :: x, b :: y, h, k => by
    simp only [Op.bytesLess, Bool.or_eq_false_iff, decide_eq_false_iff_not, Bool.and_eq_false_iff, beq_eq_false_iff_ne] at h k
    have e : a = b := by
      apply UInt8.toNat_inj.1
      have h1 := h.1
      have k1 := k.1
      rw [UInt8.lt_iff_toNat_lt] at h1 k1
      omega
    subst e
    rw [bl_tot (a := x) (b := y)]
    · rcases h.2 with h | h
      · exact absurd rfl h
      · exact h
    · rcases k.2 with h | h
      · exact absurd rfl h
      · exact h
theorem ba_toList_inj {s t : ByteArray} (e : s.toList = t.toList) : s = t := by
  rw [ByteArray.toList_eq, ByteArray.toList_eq] at e
  exact Go.WideShapes.bytes_inj e
theorem sLt_irr (a : ByteArray) : sLt a a = false := bl_irr _
theorem sLt_trans {a b c : ByteArray} (h : sLt a b = true) (k : sLt b c = true) : sLt a c = true := bl_trans h k
theorem sLt_tot {a b : ByteArray} (h : sLt a b = false) (k : sLt b a = false) : a = b := ba_toList_inj (bl_tot h k)
theorem sLt_ne {a b : ByteArray} (h : sLt a b = true) : a ≠ b := by rintro rfl; rw [sLt_irr] at h; cases h
theorem sLt_anti {a b : ByteArray} (h : sLt a b = true) : sLt b a = false := by
  cases k : sLt b a with
  | false => rfl
  | true => have := sLt_trans h k; rw [sLt_irr] at this; cases this

def zT : Td := (⟨#[]⟩, 0, [])
def tOk (d : Dbd) (i : Nat) : Bool := nameB (d.getD i zT).1 && (decide (i = 0) || sLt (d.getD (i - 1) zT).1 (d.getD i zT).1) && rowsB (d.getD i zT).2.1 (d.getD i zT).2.2 && decide (1 ≤ (d.getD i zT).2.1) && decide ((d.getD i zT).2.2.length ≤ 16)
def dbB (d : Dbd) : Bool := decide (d.length ≤ 6) && allN (tOk d) d.length 0
structure TOk (t : Td) : Prop where
  nm : nameB t.1 = true
  rel : rowsB t.2.1 t.2.2 = true
  ar : 1 ≤ t.2.1
  cnt : t.2.2.length ≤ 16
def AscT (d : Dbd) : Prop := d.Pairwise fun x y => sLt x.1 y.1 = true
theorem dbB_iff {d : Dbd} : dbB d = true ↔ d.length ≤ 6 ∧ (∀ t ∈ d, TOk t) ∧ AscT d := by
  unfold dbB
  rw [Bool.and_eq_true, decide_eq_true_eq, allN_true]
  refine and_congr_right fun _ => ?_
  constructor
  · intro h
    refine ⟨fun t ht => ?_, ?_⟩
    · obtain ⟨i, hi, rfl⟩ := List.getElem_of_mem ht
      have := h i (by omega) (by omega)
      unfold tOk at this
      rw [getDl _ _ hi] at this
      simp only [Bool.and_eq_true, decide_eq_true_eq] at this
      exact ⟨this.1.1.1.1, this.1.1.2, this.1.2, this.2⟩
    · have hn : ∀ i (h : i + 1 < d.length), sLt d[i].1 d[i + 1].1 = true := fun i hi => by
        have := h (i + 1) (by omega) (by omega)
        unfold tOk at this
        rw [getDl _ _ hi, show i + 1 - 1 = i by omega, getDl _ _ (show i < d.length by omega)] at this
        simp only [Bool.and_eq_true, Bool.or_eq_true, decide_eq_true_eq] at this
        rcases this.1.1.1.2 with k | k
        · omega
        · exact k
      unfold AscT
      rw [List.pairwise_iff_getElem]
      intro i j hi hj hij
      obtain ⟨e, rfl⟩ : ∃ e, j = i + 1 + e := ⟨j - i - 1, by omega⟩
      induction e with
      | zero => exact hn i hj
      | succ e ih => exact sLt_trans (ih (by omega) (by omega)) (hn (i + 1 + e) hj)
  · rintro ⟨h1, h2⟩ i _ hi
    rw [Nat.zero_add] at hi
    unfold tOk
    have h3 := h1 _ (List.getElem_mem hi)
    rw [getDl _ _ hi]
    simp only [Bool.and_eq_true, decide_eq_true_eq, Bool.or_eq_true]
    refine ⟨⟨⟨⟨h3.nm, ?_⟩, h3.rel⟩, h3.ar⟩, h3.cnt⟩
    rcases Nat.eq_zero_or_pos i with h4 | h4
    · exact .inl h4
    · right
      rw [getDl _ _ (show i - 1 < d.length by omega)]
      exact List.pairwise_iff_getElem.1 h2 (i - 1) i (by omega) hi (by omega)

def fndD (name : ByteArray) : Dbd → Option Rd
  | [] => none
  | t :: d => if t.1 = name then some t.2 else fndD name d
theorem fndD_step {name : ByteArray} {d : Dbd} {k : Nat} (h : k < d.length) : fndD name (d.drop k) = if d[k].1 = name then some d[k].2 else fndD name (d.drop (k + 1)) := by
  rw [List.drop_eq_getElem_cons h, fndD]
theorem fndD_end {name : ByteArray} {d : Dbd} {k : Nat} (h : ¬ k < d.length) : fndD name (d.drop k) = none := by
  rw [List.drop_eq_nil_of_le (by omega), fndD]
def lookD (d : Dbd) (name : ByteArray) : Option Rd := if dbB d = true then fndD name d else none
theorem fndD_mem {name : ByteArray} : ∀ {d : Dbd} {r : Rd}, fndD name d = some r → (name, r) ∈ d
  | [], r, h => by simp [fndD] at h
  | t :: d, r, h => by
    rw [fndD] at h
    split at h
    · rename_i e
      injection h with h
      subst e h
      simp
    · exact List.mem_cons_of_mem _ (fndD_mem h)
theorem lookD_ok {d : Dbd} {name : ByteArray} {r : Rd} (h : lookD d name = some r) : dbB d = true ∧ TOk (name, r) := by
  unfold lookD at h
  split at h
  · rename_i hv
    exact ⟨hv, (dbB_iff.1 hv).2.1 _ (fndD_mem h)⟩
  · cases h

/-- the table put into its place -/
def insT (name : ByteArray) (r : Rd) : Dbd → Dbd
  | [] => [(name, r)]
  | t :: d => if sLt t.1 name = true then t :: insT name r d else if t.1 = name then (name, r) :: d else (name, r) :: t :: d
def setD (d : Dbd) (name : ByteArray) (r : Rd) : Dbd × Bool := if dbB d = true ∧ dbB (insT name r d) = true then (insT name r d, true) else (d, false)
/-- the reference's way -/
def sIns (name : ByteArray) (r : Rd) : Bool → Dbd → Dbd
  | put, [] => if put = true then [] else [(name, r)]
  | put, t :: d => (if put = false ∧ sLt t.1 name = false then [(name, r)] else []) ++ (if t.1 = name then [] else [t]) ++ sIns name r (put || !sLt t.1 name) d
theorem sIns_put {name : ByteArray} {r : Rd} : ∀ {d : Dbd}, (∀ t ∈ d, sLt name t.1 = true) → sIns name r true d = d
  | [], _ => by simp [sIns]
  | t :: d, h => by
    rw [sIns, Bool.true_or, sIns_put (d := d) (fun u hu => h u (by simp [hu])), if_neg (by simp), if_neg (fun e => by have := h t (by simp); rw [e, sLt_irr] at this; cases this)]
    rfl
theorem sIns_eq {name : ByteArray} {r : Rd} : ∀ {d : Dbd}, AscT d → sIns name r false d = insT name r d
  | [], _ => by simp [sIns, insT]
  | t :: d, h => by
    unfold AscT at h
    rw [List.pairwise_cons] at h
    rw [sIns, insT]
    by_cases h1 : sLt t.1 name = true
    · rw [if_neg (by simp [h1]), if_pos h1, if_neg (sLt_ne h1), h1]
      rw [show (false || !true) = false from rfl, sIns_eq h.2]
      rfl
    · have h1' : sLt t.1 name = false := by simpa using h1
      rw [if_pos ⟨rfl, h1'⟩, if_neg h1, h1']
      rw [show (false || !false) = true from rfl]
      by_cases h2 : t.1 = name
      · rw [if_pos h2, if_pos h2, sIns_put (fun u hu => h2 ▸ h.1 u hu)]
        rfl
      · rw [if_neg h2, if_neg h2]
        have h3 : sLt name t.1 = true := by
          cases k : sLt name t.1 with
          | true => rfl
          | false => exact absurd (sLt_tot h1' k) h2
        rw [sIns_put (fun u hu => sLt_trans h3 (h.1 u hu))]
        rfl
end Go.Proofs.Ytfigcfajkilhiaa

/- Texts compared. No program in it. -/
namespace Go.Proofs.Ytfigcfajkilhiaa
open Go.RowKit
theorem str_beqf {s t : ByteArray} (h : s ≠ t) : (s.toList == t.toList) = false := by rw [str_beq, decide_eq_false h]
theorem str_beqt {s t : ByteArray} (h : s = t) : (s.toList == t.toList) = true := by rw [str_beq, decide_eq_true h]
theorem str_bnef {s t : ByteArray} (h : s ≠ t) : (s.toList != t.toList) = true := by rw [bne, str_beqf h]; rfl
theorem str_bnet {s t : ByteArray} (h : s = t) : (s.toList != t.toList) = false := by rw [bne, str_beqt h]; rfl
end Go.Proofs.Ytfigcfajkilhiaa

/- Texts joined by a separator. -/
namespace Go.Proofs.Ytfigcfajkilhiaa
open Go.RowKit

theorem tS : SlT Try.prog 117 9 1 16 (.string ⟨#[]⟩) := ⟨Try.underlying117, by kernel_rfl, rfl, by omega⟩
/-! texts joined by a separator -/
def joinF (sep : ByteArray) : Nat → ByteArray → List ByteArray → ByteArray
  | _, acc, [] => acc
  | k, acc, p :: ps => joinF sep (k + 1) ((if 0 < k then acc ++ sep else acc) ++ p) ps
theorem joinF_step {sep acc : ByteArray} {ps : List ByteArray} {k : Nat} (h : k < ps.length) : joinF sep k acc (ps.drop k) = joinF sep (k + 1) ((if 0 < k then acc ++ sep else acc) ++ ps[k]) (ps.drop (k + 1)) := by
  rw [List.drop_eq_getElem_cons h, joinF]
set_option maxHeartbeats 1000000 in
theorem join_any {A : Option Addr} {c : Nat} {ps : List ByteArray} {sep : ByteArray} {w : World} (hx : ps.length ≤ 1000000000) (h1 : RS w A ps) (hs : sep.size ≤ 1000000000) (hp : ∀ j (h : j < ps.length), ps[j].size ≤ 1000000000) :
    Calls Try.prog 134 #[.slice A ps.length c, .string sep] w fun e w' => e = .returned (.string (joinF sep 0 ⟨#[]⟩ ps)) ∧ ∃ y, w' = ext w y := by
  have Hp := Lib.hid hp
  clear hp
  go_enter Try.func134, Try.ntmps134
  go_wp2
  go_loopw [5, 10] (fun o i wr => ∃ (k : Nat) (acc : ByteArray), o = .string acc ∧ i = .int .i64 k ∧ k ≤ ps.length ∧ acc.size ≤ 2000000000 * k ∧ joinF sep k acc (ps.drop k) = joinF sep 0 ⟨#[]⟩ ps ∧ ∃ y, wr = ext w y) (fun _ i _ => ps.length - (intOf i).toNat)
  case atStart => exact ⟨0, ⟨#[]⟩, rfl, rfl, by omega, by decide, by simp, refl_ext w⟩
  case round =>
    obtain ⟨k, acc, rfl, rfl, hk, ha, hj, hy⟩ := hrel
    have Hj := Lib.hid hj
    clear hj
    have h1' := h1.toExt hy
    by_cases hlt : k < ps.length
    · have hpk := Hp.out k hlt
      have e := Hj.out
      rw [joinF_step hlt] at e
      have He := Lib.hid e
      clear e
      obtain ⟨b, o, rfl, hb, hc⟩ := h1'.atS hlt
      have hsa := ba_size acc sep
      have hsb := ba_size (acc ++ sep) ps[k]
      have hsc := ba_size acc ps[k]
      by_cases h0 : 0 < k
      · have e := He.out
        rw [if_pos h0] at e
        have He := Lib.hid e
        clear e
        go_wp2
        exact ⟨⟨k + 1, acc ++ sep ++ ps[k], rfl, by go_num, by omega, by omega, He.out, hy⟩, by simp [intOf]; omega⟩
      · have e := He.out
        rw [if_neg h0] at e
        have He := Lib.hid e
        clear e
        go_wp2
        exact ⟨⟨k + 1, acc ++ ps[k], rfl, by go_num, by omega, by omega, He.out, hy⟩, by simp [intOf]; omega⟩
    · go_wp2
      go_ret
      have e := Hj.out
      rw [List.drop_eq_nil_of_le (by omega), joinF] at e
      exact ⟨by rw [← e]; rfl, hy⟩
theorem join_n {A : Option Addr} {c n : Nat} {ps : List ByteArray} {sep : ByteArray} {w : World} (hn : ps.length = n) (hx : n ≤ 1000000000) (h1 : RS w A ps) (hs : sep.size ≤ 1000000000) (hp : ∀ j (h : j < ps.length), ps[j].size ≤ 1000000000) :
    Calls Try.prog 134 #[.slice A n c, .string sep] w fun e w' => e = .returned (.string (joinF sep 0 ⟨#[]⟩ ps)) ∧ ∃ y, w' = ext w y := by
  subst hn
  exact join_any hx h1 hs hp
end Go.Proofs.Ytfigcfajkilhiaa

/- Texts joined by a byte and divided at it: the one undoes the other. Plain. -/
namespace Go.Proofs.Ytfigcfajkilhiaa
open Go.RowKit

theorem bl_app (a b : ByteArray) : bl (a ++ b) = bl a ++ bl b := by simp [bl]
def jl (c : UInt8) : List (List UInt8) → List UInt8
  | [] => []
  | [p] => p
  | p :: q :: ps => p ++ c :: jl c (q :: ps)
theorem spl_jl {c : UInt8} : ∀ {ps : List (List UInt8)}, ps ≠ [] → (∀ p ∈ ps, ∀ x ∈ p, x ≠ c) → spl c (jl c ps) = ps
  | [], h, _ => absurd rfl h
  | [p], _, h => by rw [jl]; exact spl_none (h p (by simp))
  | p :: q :: ps, _, h => by
    rw [jl, spl_two (h p (by simp)), spl_jl (ps := q :: ps) (by simp) (fun r hr => h r (List.mem_cons_of_mem _ hr))]
theorem jl_jh {c : UInt8} {p : List UInt8} : ∀ {L : List (List UInt8)}, L ≠ [] → jl c (jh p L) = p ++ jl c L
  | [], h => absurd rfl h
  | [q], _ => by simp [jh, jl]
  | q :: r :: L, _ => by simp [jh, jl]
theorem jl_spl {c : UInt8} : ∀ l : List UInt8, jl c (spl c l) = l
  | [] => by simp [spl, jl]
  | x :: l => by
    by_cases h : x = c
    · subst h
      rw [spl_sep]
      obtain ⟨q, L, e⟩ := List.exists_cons_of_ne_nil (spl_ne x l)
      rw [e, jl, ← e, jl_spl l]
      rfl
    · rw [spl_other h, jl_jh (spl_ne c l), jl_spl l]
      rfl
theorem joinF_pos {c : UInt8} : ∀ (ps : List ByteArray) (k : Nat) (acc : ByteArray), 0 < k → bl (joinF ⟨#[c]⟩ k acc ps) = bl acc ++ (ps.map fun p => c :: bl p).flatten
  | [], k, acc, _ => by simp [joinF]
  | p :: ps, k, acc, h => by
    rw [joinF, if_pos h, joinF_pos ps (k + 1) _ (by omega), bl_app, bl_app]
    simp
    rfl
theorem jl_flat {c : UInt8} (p : List UInt8) : ∀ ps : List (List UInt8), jl c (p :: ps) = p ++ (ps.map fun p => c :: p).flatten
  | [] => by simp [jl]
  | q :: ps => by rw [jl, jl_flat q ps]; simp
theorem joinF_jl {c : UInt8} (ps : List ByteArray) : bl (joinF ⟨#[c]⟩ 0 ⟨#[]⟩ ps) = jl c (ps.map bl) := by
  cases ps with
  | nil => rfl
  | cons p ps =>
    rw [joinF, if_neg (by omega), joinF_pos ps 1 _ (by omega), bl_app, List.map_cons, jl_flat, List.map_map]
    rfl
theorem splB_joinF {c : UInt8} {ps : List ByteArray} (h : ps ≠ []) (hc : ∀ p ∈ ps, ∀ x ∈ bl p, x ≠ c) : splB c (joinF ⟨#[c]⟩ 0 ⟨#[]⟩ ps) = ps := by
  unfold splB
  rw [joinF_jl, spl_jl (by simpa using h)]
  · rw [List.map_map]
    conv => rhs; rw [← List.map_id ps]
    rfl
  · intro p hp
    obtain ⟨q, hq, rfl⟩ := List.mem_map.1 hp
    exact hc q hq
theorem joinF_splB (c : UInt8) (s : ByteArray) : joinF ⟨#[c]⟩ 0 ⟨#[]⟩ (splB c s) = s := by
  apply bl_inj
  rw [joinF_jl]
  unfold splB
  rw [List.map_map]
  rw [show (bl ∘ bs) = id from rfl, List.map_id, jl_spl]
end Go.Proofs.Ytfigcfajkilhiaa

/- Numbers read from text, the program's way and the reference's. Plain: no program in it. -/
namespace Go.Proofs.Ytfigcfajkilhiaa
open Go.RowKit

/-- the sign and the digits -/
def sgI (l : List UInt8) : Bool × List UInt8 := if l.head? = some 45 then (true, l.tail) else (false, l)
def sg1 (b : Bool) (n : Int) : Int := if b = true then -n else n
def pInt (s : ByteArray) : Option Int := match numG 0 (sgI (bl s)).2 with
  | none => none
  | some n => if (sgI (bl s)).2.length ≤ 9 ∧ decI (sg1 (sgI (bl s)).1 n) = s then some (sg1 (sgI (bl s)).1 n) else none
theorem sgI_dec (n : Nat) : sgI (dec n) = (false, dec n) := by
  unfold sgI
  rw [if_neg]
  intro h
  have hm : (45 : UInt8) ∈ dec n := List.mem_of_mem_head? h
  exact isD_ne (dec_isD n _ hm) (by decide) rfl
theorem sgI_decI (z : Int) : sgI (bl (decI z)) = (decide (z < 0), dec z.natAbs) := by
  unfold decI
  split
  · rename_i h
    rw [bl_bs, decide_eq_true h]
    rfl
  · rename_i h
    rw [bl_bs, sgI_dec, decide_eq_false h]
theorem sg1_abs (z : Int) : sg1 (decide (z < 0)) (z.natAbs : Int) = z := by
  unfold sg1
  by_cases h : z < 0
  · rw [decide_eq_true h, if_pos rfl]; omega
  · rw [decide_eq_false h, if_neg (by decide)]; omega
theorem pw9 {k : Nat} (h : k ≤ 9) : (10 : Int) ^ k ≤ 1000000000 := by
  have : (10 : Nat) ^ k ≤ 10 ^ 9 := Nat.pow_le_pow_right (by omega) h
  have h2 : ((10 ^ k : Nat) : Int) ≤ ((10 ^ 9 : Nat) : Int) := by exact_mod_cast this
  simpa using h2
theorem sg1_lt {b : Bool} {n : Int} (h0 : 0 ≤ n) (h : n < 1000000000) : (sg1 b n).natAbs < 1000000000 := by
  unfold sg1
  split <;> omega
theorem pInt_iff {s : ByteArray} {z : Int} : pInt s = some z ↔ z.natAbs < 1000000000 ∧ decI z = s := by
  constructor
  · intro h
    unfold pInt at h
    split at h
    · cases h
    · rename_i n hn
      split at h
      · rename_i hc
        injection h with h
        subst h
        refine ⟨?_, hc.2⟩
        have h1 := numG_le _ 0 n 0 hn (by omega) (by decide)
        have h2 := pw9 (k := 0 + (sgI (bl s)).2.length) (by omega)
        exact sg1_lt h1.1 (by omega)
      · cases h
  · rintro ⟨h1, rfl⟩
    have hl := dec_length 9 z.natAbs (by omega) h1
    unfold pInt
    rw [sgI_decI]
    simp only [numG_dec, sg1_abs]
    rw [if_pos ⟨hl, trivial⟩]
theorem pInt_decI {z : Int} (h : z.natAbs < 1000000000) : pInt (decI z) = some z := pInt_iff.2 ⟨h, rfl⟩
theorem pInt_empty {s : ByteArray} (h : (sgI (bl s)).2 = []) : pInt s = none := by
  cases e : pInt s with
  | none => rfl
  | some z =>
    obtain ⟨_, rfl⟩ := pInt_iff.1 e
    rw [sgI_decI] at h
    exact absurd h (dec_ne _)
theorem pInt_long {s : ByteArray} (h : 9 < (sgI (bl s)).2.length) : pInt s = none := by
  unfold pInt
  split
  · rfl
  · rw [if_neg (by omega)]
theorem pInt_bad {s : ByteArray} (h : numG 0 (sgI (bl s)).2 = none) : pInt s = none := by
  unfold pInt
  rw [h]
theorem pInt_num {s : ByteArray} {n : Int} (h : numG 0 (sgI (bl s)).2 = some n) (hl : (sgI (bl s)).2.length ≤ 9) : pInt s = if decI (sg1 (sgI (bl s)).1 n) = s then some (sg1 (sgI (bl s)).1 n) else none := by
  unfold pInt
  rw [h]
  simp only [hl, true_and]
theorem pInt_bd {s : ByteArray} {z : Int} (h : pInt s = some z) : -1000000000 < z ∧ z < 1000000000 := by
  have := (pInt_iff.1 h).1
  omega
theorem pIntG_bd (s : ByteArray) : -1000000000 < (pInt s).getD 0 ∧ (pInt s).getD 0 < 1000000000 := by
  cases h : pInt s with
  | none => simp
  | some z => exact pInt_bd h
/-! the reference's way: the digits among the first eleven bytes -/
def dgG : Int → Nat → List UInt8 → Int × Nat
  | n, k, [] => (n, k)
  | n, k, b :: l => if isD b = true then dgG (n * 10 + ((b.toNat : Int) - 48)) (k + 1) l else dgG n k l
theorem dgG_digs : ∀ (l : List UInt8) (n : Int) (k : Nat), (∀ x ∈ l, isD x = true) → ∃ m, numG n l = some m ∧ dgG n k l = (m, k + l.length)
  | [], n, k, _ => ⟨n, rfl, rfl⟩
  | b :: l, n, k, h => by
    obtain ⟨m, h1, h2⟩ := dgG_digs l (n * 10 + ((b.toNat : Int) - 48)) (k + 1) (fun x hx => h x (by simp [hx]))
    refine ⟨m, ?_, ?_⟩
    · rw [numG, if_pos (h b (by simp)), show 10 * n + ((b.toNat : Int) - 48) = n * 10 + ((b.toNat : Int) - 48) by omega, h1]
    · rw [dgG, if_pos (h b (by simp)), h2, List.length_cons]
      congr 1; omega
theorem dgG_bd : ∀ (l : List UInt8) (n : Int) (k : Nat), 0 ≤ n → n < 10 ^ k → 0 ≤ (dgG n k l).1 ∧ (dgG n k l).1 < 10 ^ (dgG n k l).2 ∧ (dgG n k l).2 ≤ k + l.length
  | [], n, k, h0, h1 => ⟨h0, h1, by simp [dgG]⟩
  | b :: l, n, k, h0, h1 => by
    rw [dgG]
    split
    · rename_i hd
      have hd : 48 ≤ b.toNat ∧ b.toNat ≤ 57 := by simpa [isD] using hd
      have h2 : (10 : Int) ^ (k + 1) = 10 ^ k * 10 := Int.pow_succ 10 k
      obtain ⟨a, b, c⟩ := dgG_bd l (n * 10 + ((b.toNat : Int) - 48)) (k + 1) (by omega) (by omega)
      exact ⟨a, b, by rw [List.length_cons]; omega⟩
    · obtain ⟨a, b, c⟩ := dgG_bd l n k h0 h1
      exact ⟨a, b, by rw [List.length_cons]; omega⟩
/-- the number that the reference makes of a text -/
def pIz (s : ByteArray) : Int := sg1 (decide ((bl s).head? = some 45)) (dgG 0 0 ((bl s).take 11)).1
theorem pIs_eq (s : ByteArray) : pInt s = if (dgG 0 0 ((bl s).take 11)).2 ≤ 9 ∧ s.size ≤ 10 ∧ decI (pIz s) = s then some (pIz s) else none := by
  cases h : pInt s with
  | some z =>
    obtain ⟨h1, rfl⟩ := pInt_iff.1 h
    have hl := dec_length 9 z.natAbs (by omega) h1
    obtain ⟨m, e1, e2⟩ := dgG_digs (dec z.natAbs) 0 0 (dec_isD _)
    rw [numG_dec] at e1
    injection e1 with e1
    subst e1
    have hd : dgG 0 0 ((bl (decI z)).take 11) = ((z.natAbs : Int), (dec z.natAbs).length) ∧ (bl (decI z)).head? = (if z < 0 then some 45 else (dec z.natAbs).head?) ∧ (bl (decI z)).length ≤ 10 := by
      unfold decI
      split
      · rw [bl_bs, List.take_of_length_le (by simp; omega), dgG, if_neg (by decide), e2]
        exact ⟨by simp, rfl, by simp; omega⟩
      · rw [bl_bs, List.take_of_length_le (by omega), e2]
        exact ⟨by simp, rfl, by omega⟩
    obtain ⟨d1, d2, d3⟩ := hd
    have hz : pIz (decI z) = z := by
      unfold pIz
      rw [d1, d2]
      by_cases hn : z < 0
      · rw [if_pos hn, decide_eq_true rfl]
        unfold sg1
        simp only [if_true]
        omega
      · rw [if_neg hn, decide_eq_false]
        · unfold sg1
          simp only [Bool.false_eq_true, if_false]
          omega
        · intro h
          have hm : (45 : UInt8) ∈ dec z.natAbs := List.mem_of_mem_head? h
          exact isD_ne (dec_isD _ _ hm) (by decide) rfl
    rw [d1, hz, if_pos ⟨hl, by rw [← bl_length]; exact d3, rfl⟩]
  | none =>
    rw [if_neg]
    rintro ⟨h1, _, h3⟩
    have h4 := dgG_bd ((bl s).take 11) 0 0 (by omega) (by decide)
    have h5 := pw9 h1
    have h6 : (pIz s).natAbs < 1000000000 := sg1_lt h4.1 (by omega)
    rw [pInt_iff.2 ⟨h6, h3⟩] at h
    cases h
theorem pIz_bd (s : ByteArray) : -100000000000 < pIz s ∧ pIz s < 100000000000 := by
  have h4 := dgG_bd ((bl s).take 11) 0 0 (by omega) (by decide)
  have h5 : (10 : Nat) ^ (dgG 0 0 ((bl s).take 11)).2 ≤ 10 ^ 11 := Nat.pow_le_pow_right (by omega) (by have := h4.2.2; simp at this; omega)
  have h6 : ((10 ^ (dgG 0 0 ((bl s).take 11)).2 : Nat) : Int) ≤ ((10 ^ 11 : Nat) : Int) := by exact_mod_cast h5
  simp only [Int.natCast_pow] at h6
  have h7 : (((10 : Nat) : Int)) = 10 := rfl
  rw [h7] at h6
  unfold pIz sg1
  split <;> omega
theorem dgG_step {n : Int} {k : Nat} {l : List UInt8} {i : Nat} (h : i < l.length) (hd : isD l[i] = true) : dgG n k (l.drop i) = dgG (n * 10 + ((l[i].toNat : Int) - 48)) (k + 1) (l.drop (i + 1)) := by
  rw [List.drop_eq_getElem_cons h, dgG, if_pos hd]
theorem dgG_skip {n : Int} {k : Nat} {l : List UInt8} {i : Nat} (h : i < l.length) (hd : isD l[i] = false) : dgG n k (l.drop i) = dgG n k (l.drop (i + 1)) := by
  rw [List.drop_eq_getElem_cons h, dgG, if_neg (by simp [hd])]
theorem numL_step {n : Int} {l : List UInt8} {i : Nat} (h : i < l.length) (hd : isD l[i] = true) : numG n (l.drop i) = numG (10 * n + ((l[i].toNat : Int) - 48)) (l.drop (i + 1)) := by
  rw [List.drop_eq_getElem_cons h, numG, if_pos hd]
theorem numL_stop {n : Int} {l : List UInt8} {i : Nat} (h : i < l.length) (hd : isD l[i] = false) : numG n (l.drop i) = none := by
  rw [List.drop_eq_getElem_cons h, numG, if_neg (by simp [hd])]
theorem numL_end {n : Int} {l : List UInt8} {i : Nat} (h : ¬ i < l.length) : numG n (l.drop i) = some n := by
  rw [List.drop_eq_nil_of_le (by omega), numG]
theorem decI_by (z : Int) : ∀ x ∈ bl (decI z), isD x = true ∨ x = 45 := by
  intro x hx
  unfold decI at hx
  split at hx
  · rw [bl_bs] at hx
    rcases List.mem_cons.1 hx with e | e
    · exact .inr e
    · exact .inl (dec_isD _ x e)
  · rw [bl_bs] at hx
    exact .inl (dec_isD _ x hx)
theorem decI_not {c : UInt8} (h : isD c = false) (h2 : c ≠ 45) (z : Int) : ∀ x ∈ bl (decI z), x ≠ c := fun x hx => by
  rcases decI_by z x hx with e | e
  · exact isD_ne e h
  · rw [e]; exact h2.symm
theorem decI_ne (z : Int) : 1 ≤ (decI z).size := by
  have h1 := List.length_pos_iff.2 (dec_ne z.natAbs)
  unfold decI
  split <;> rw [bs_size] <;> simp <;> omega
end Go.Proofs.Ytfigcfajkilhiaa

/- Relations and databases as text: plain laws; the program's way and the reference's read the same. -/
namespace Go.Proofs.Ytfigcfajkilhiaa
open Go.RowKit

theorem ba3 (a b c : ByteArray) : a ++ b ++ c = a ++ (b ++ c) := bl_inj (by simp [bl])
theorem ba0 (a : ByteArray) : a ++ ⟨#[]⟩ = a := bl_inj (by simp [bl])
theorem ba00 (a : ByteArray) : ⟨#[]⟩ ++ a = a := bl_inj (by simp [bl])
theorem joinF_ac (sep : ByteArray) : ∀ (ps : List ByteArray) (k : Nat) (acc : ByteArray), joinF sep k acc ps = acc ++ joinF sep k ⟨#[]⟩ ps
  | [], k, acc => by rw [joinF, joinF, ba0]
  | p :: ps, k, acc => by
    rw [joinF, joinF, joinF_ac sep ps, joinF_ac sep ps (k + 1) (_ ++ p)]
    split
    · rw [ba00]; simp only [ba3]
    · rw [ba00]; simp only [ba3]
/-- a row's text, a relation's, a table's, a database's -/
def rowTx (r : List Int) : ByteArray := ⟨#[40]⟩ ++ joinF ⟨#[44]⟩ 0 ⟨#[]⟩ (r.map decI) ++ ⟨#[41]⟩
def relTx (r : Rd) : ByteArray := decI r.1 ++ ⟨#[58]⟩ ++ joinF ⟨#[32]⟩ 0 ⟨#[]⟩ (r.2.map rowTx)
def fmtR (r : Rd) : ByteArray := if rowsB r.1 r.2 = true then relTx r else ⟨#[]⟩
def lineT (t : Td) : ByteArray := t.1 ++ ⟨#[61]⟩ ++ fmtR t.2
def fdG : ByteArray → Dbd → ByteArray
  | acc, [] => acc
  | acc, t :: d => fdG (acc ++ (lineT t ++ ⟨#[10]⟩)) d
def fmtD (d : Dbd) : ByteArray := if dbB d = true then fdG ⟨#[]⟩ d else ⟨#[]⟩
theorem fdG_step {acc : ByteArray} {d : Dbd} {k : Nat} (h : k < d.length) : fdG acc (d.drop k) = fdG (acc ++ (lineT d[k] ++ ⟨#[10]⟩)) (d.drop (k + 1)) := by
  rw [List.drop_eq_getElem_cons h, fdG]
theorem fdG_end {acc : ByteArray} {d : Dbd} {k : Nat} (h : ¬ k < d.length) : fdG acc (d.drop k) = acc := by
  rw [List.drop_eq_nil_of_le (by omega), fdG]
/-! read: the program's way -/
def plG : List Int → List ByteArray → Option (List Int)
  | acc, [] => some acc
  | acc, w :: ws => match pInt w with
    | none => none
    | some n => plG (acc ++ [n]) ws
def pList (s : ByteArray) : Option (List Int) := if s.size = 0 then some [] else plG [] (splB 44 s)
def prG : List (List Int) → List ByteArray → Option (List (List Int))
  | acc, [] => some acc
  | acc, w :: ws => if w.size < 2 then none else match pList (w.extract 1 (w.size - 1)) with
    | none => none
    | some r => prG (acc ++ [r]) ws
def finR (r : Rd) (s : ByteArray) : Option Rd := if fmtR r = s ∧ s.size ≠ 0 then some r else none
def pRel (s : ByteArray) : Option Rd := match pInt ((splB 58 s).getD 0 ⟨#[]⟩) with
  | none => none
  | some a => if (splB 58 s).length = 2 then (if ((splB 58 s).getD 1 ⟨#[]⟩).size = 0 then finR (a, []) s else match prG [] (splB 32 ((splB 58 s).getD 1 ⟨#[]⟩)) with
    | none => none
    | some rows => finR (a, rows) s) else none
def pdG : Dbd → List ByteArray → Option Dbd
  | acc, [] => some acc
  | acc, l :: ls => if (splB 61 l).length = 2 then (match pRel ((splB 61 l).getD 1 ⟨#[]⟩) with
    | none => none
    | some r => pdG (acc ++ [((splB 61 l).getD 0 ⟨#[]⟩, r)]) ls) else none
def finD (d : Dbd) (s : ByteArray) : Option Dbd := if fmtD d = s then some d else none
def pDb (s : ByteArray) : Option Dbd := match pdG [] (splB 10 s).dropLast with
  | none => none
  | some d => finD d s
/-! the reference's way -/
def rowS (w : ByteArray) : List Int := if 2 < w.size then (splB 44 (w.extract 1 (w.size - 1))).map (fun v => (pInt v).getD 0) else []
def sRows (s : ByteArray) : List (List Int) := if (splB 58 s).length = 2 ∧ ((splB 58 s).getD 1 ⟨#[]⟩).size ≠ 0 then (splB 32 ((splB 58 s).getD 1 ⟨#[]⟩)).map rowS else []
def pRelS (s : ByteArray) : Option Rd := finR ((pInt ((splB 58 s).getD 0 ⟨#[]⟩)).getD 0, sRows s) s
def lastB (L : List ByteArray) : ByteArray := L.getD (L.length - 1) ⟨#[]⟩
def pdS : Dbd → List ByteArray → Option Dbd
  | acc, [] => some acc
  | acc, l :: ls => match pRel (lastB (splB 61 l)) with
    | none => none
    | some r => pdS (acc ++ [((splB 61 l).getD 0 ⟨#[]⟩, r)]) ls
def pDbS (s : ByteArray) : Option Dbd := match pdS [] (splB 10 s).dropLast with
  | none => none
  | some d => if dbB d = true ∧ fmtD d = s then some d else none

theorem relTx_size (r : Rd) : 1 ≤ (relTx r).size := by
  unfold relTx
  rw [ba_size, ba_size]
  have := decI_ne r.1
  omega
theorem finR_some {d q : Rd} {s : ByteArray} (h : finR d s = some q) : d = q ∧ rowsB q.1 q.2 = true ∧ fmtR q = s := by
  unfold finR at h
  split at h
  · rename_i h1
    injection h with h
    subst h
    refine ⟨rfl, ?_, h1.1⟩
    cases hv : rowsB d.1 d.2 with
    | true => rfl
    | false =>
      refine absurd ?_ h1.2
      rw [← h1.1]
      unfold fmtR
      rw [hv]
      rfl
  · cases h
theorem finR_self {d : Rd} (h : rowsB d.1 d.2 = true) : finR d (fmtR d) = some d := by
  have hs : (fmtR d).size ≠ 0 := by
    unfold fmtR
    rw [if_pos h]
    have := relTx_size d
    omega
  unfold finR
  rw [if_pos ⟨rfl, hs⟩]
theorem pRel_some {s : ByteArray} {d : Rd} (h : pRel s = some d) : rowsB d.1 d.2 = true ∧ fmtR d = s := by
  unfold pRel at h
  split at h
  · cases h
  · split at h
    · split at h
      · exact (finR_some h).2
      · split at h
        · cases h
        · exact (finR_some h).2
    · cases h
theorem pRelS_some {s : ByteArray} {d : Rd} (h : pRelS s = some d) : rowsB d.1 d.2 = true ∧ fmtR d = s := (finR_some h).2
/-! sizes -/
theorem rowTx_size (r : List Int) : (rowTx r).size = (joinF ⟨#[44]⟩ 0 ⟨#[]⟩ (r.map decI)).size + 2 := by
  unfold rowTx
  rw [ba_size, ba_size, show (ByteArray.mk #[40]).size = 1 from rfl, show (ByteArray.mk #[41]).size = 1 from rfl]
  omega
theorem joinF_sz {c : UInt8} (m : Nat) : ∀ (ps : List ByteArray) (k : Nat) (acc : ByteArray), (∀ p ∈ ps, p.size ≤ m) → (joinF ⟨#[c]⟩ k acc ps).size ≤ acc.size + ps.length * (m + 1)
  | [], k, acc, _ => by simp [joinF]
  | p :: ps, k, acc, h => by
    have h1 := h p (by simp)
    have ih := joinF_sz (c := c) m ps (k + 1) ((if 0 < k then acc ++ ⟨#[c]⟩ else acc) ++ p) fun q hq => h q (by simp [hq])
    have h2 : ((if 0 < k then acc ++ ⟨#[c]⟩ else acc) ++ p).size ≤ acc.size + 1 + p.size := by
      rw [ba_size]
      split
      · rw [ba_size, show (ByteArray.mk #[c]).size = 1 from rfl]; omega
      · omega
    rw [joinF, List.length_cons, Nat.add_mul]
    omega
structure SzR (d : Rd) : Prop where
  a : I64 d.1
  n : d.2.length ≤ 4000
  rl : ∀ r ∈ d.2, r.length ≤ 5
  rv : ∀ r ∈ d.2, ∀ v ∈ r, 0 ≤ v ∧ v ≤ 99
theorem rowsB_sz {d : Rd} (h : rowsB d.1 d.2 = true) : SzR d := by
  obtain ⟨h1, h2, h3, h4, _⟩ := rowsB_iff.1 h
  refine ⟨⟨by omega, by omega⟩, h3, fun r hr => by have := (h4 r hr).1; omega, fun r hr v hv => ?_⟩
  have := (h4 r hr).2
  unfold rowV at this
  rw [List.all_eq_true] at this
  exact inB_t (this v hv)
theorem nums_sz {r : List Int} (h : r.length ≤ 5) (hv : ∀ v ∈ r, 0 ≤ v ∧ v ≤ 99) (j : Nat) : (joinF ⟨#[44]⟩ 0 ⟨#[]⟩ ((r.take j).map decI)).size ≤ 105 := by
  have := joinF_sz (c := 44) 20 ((r.take j).map decI) 0 ⟨#[]⟩ (fun p hp => by
    obtain ⟨v, hm, rfl⟩ := List.mem_map.1 hp
    have := hv v (List.mem_of_mem_take hm)
    exact decI_size (by omega) (by omega))
  rw [List.length_map, show (ByteArray.mk #[]).size = 0 from rfl] at this
  have h2 : (r.take j).length ≤ 5 := by simp; omega
  omega
theorem rowTx_sz {r : List Int} (h : r.length ≤ 5) (hv : ∀ v ∈ r, 0 ≤ v ∧ v ≤ 99) : (rowTx r).size ≤ 107 := by
  have := nums_sz h hv r.length
  rw [List.take_length] at this
  rw [rowTx_size]
  omega
theorem relTx_sz {d : Rd} (h : SzR d) : (relTx d).size ≤ 21 + 108 * d.2.length := by
  have := joinF_sz (c := 32) 107 (d.2.map rowTx) 0 ⟨#[]⟩ (fun p hp => by
    obtain ⟨r, hr, rfl⟩ := List.mem_map.1 hp
    exact rowTx_sz (h.rl r hr) (h.rv r hr))
  rw [List.length_map, show (ByteArray.mk #[]).size = 0 from rfl] at this
  have h2 := decI_size h.a.1 h.a.2
  unfold relTx
  rw [ba_size, ba_size, show (ByteArray.mk #[58]).size = 1 from rfl]
  omega
theorem fmtR_sz (d : Rd) : (fmtR d).size ≤ 432021 := by
  unfold fmtR
  split
  · rename_i h
    have h1 := relTx_sz (rowsB_sz h)
    have h2 := (rowsB_sz h).n
    omega
  · decide
theorem lineT_sz {t : Td} (h : TOk t) : (lineT t).size ≤ 1754 := by
  have h1 := relTx_sz (rowsB_sz h.rel)
  have h2 := h.cnt
  have h3 : t.1.size ≤ 4 := by
    have := h.nm
    unfold nameB at this
    rw [Bool.and_eq_true] at this
    have := inB_t this.1
    omega
  unfold lineT fmtR
  rw [if_pos h.rel, ba_size, ba_size, show (ByteArray.mk #[61]).size = 1 from rfl]
  omega
/-! the text of a valid relation -/
structure OkR (d : Rd) : Prop where
  a : d.1.natAbs < 1000000000
  v : ∀ r ∈ d.2, ∀ v ∈ r, v.natAbs < 1000000000
theorem rowsB_ok {d : Rd} (h : rowsB d.1 d.2 = true) : OkR d := by
  obtain ⟨h1, h2, _, h3, _⟩ := rowsB_iff.1 h
  refine ⟨by omega, fun r hr v hv => ?_⟩
  have := (h3 r hr).2
  unfold rowV at this
  rw [List.all_eq_true] at this
  have := inB_t (this v hv)
  omega
def TxB (x : UInt8) : Prop := isD x = true ∨ x = 45 ∨ x = 40 ∨ x = 41 ∨ x = 44
theorem jl_mem2 {c y : UInt8} : ∀ {ps : List (List UInt8)}, y ∈ jl c ps → y = c ∨ ∃ p ∈ ps, y ∈ p
  | [], h => by simp [jl] at h
  | [p], h => .inr ⟨p, by simp, by simpa [jl] using h⟩
  | p :: q :: ps, h => by
    rw [jl] at h
    rcases List.mem_append.1 h with h | h
    · exact .inr ⟨p, by simp, h⟩
    · rcases List.mem_cons.1 h with h | h
      · exact .inl h
      · rcases jl_mem2 (ps := q :: ps) h with h | ⟨r, hr, h⟩
        · exact .inl h
        · exact .inr ⟨r, List.mem_cons_of_mem _ hr, h⟩
theorem bl_rowTx (r : List Int) : bl (rowTx r) = 40 :: (jl 44 ((r.map decI).map bl) ++ [41]) := by
  unfold rowTx
  rw [bl_app, bl_app, joinF_jl]
  rfl
theorem nums_by {r : List Int} : ∀ x ∈ jl 44 ((r.map decI).map bl), isD x = true ∨ x = 45 ∨ x = 44 := by
  intro x hx
  rcases jl_mem2 hx with e | ⟨p, hp, hx⟩
  · exact .inr (.inr e)
  · simp only [List.map_map, List.mem_map] at hp
    obtain ⟨z, _, rfl⟩ := hp
    rcases decI_by z x hx with e | e
    · exact .inl e
    · exact .inr (.inl e)
theorem rowTx_by (r : List Int) : ∀ x ∈ bl (rowTx r), TxB x := by
  intro x hx
  rw [bl_rowTx] at hx
  rcases List.mem_cons.1 hx with e | hx
  · exact .inr (.inr (.inl e))
  · rcases List.mem_append.1 hx with hx | hx
    · rcases nums_by x hx with e | e | e
      · exact .inl e
      · exact .inr (.inl e)
      · exact .inr (.inr (.inr (.inr e)))
    · exact .inr (.inr (.inr (.inl (List.mem_singleton.1 hx))))
theorem TxB.ne {x c : UInt8} (h : TxB x) (hc : isD c = false) (h1 : c ≠ 45) (h2 : c ≠ 40) (h3 : c ≠ 41) (h4 : c ≠ 44) : x ≠ c := by
  rcases h with h | h | h | h | h
  · exact isD_ne h hc
  · rw [h]; exact h1.symm
  · rw [h]; exact h2.symm
  · rw [h]; exact h3.symm
  · rw [h]; exact h4.symm
theorem rows_by (rows : List (List Int)) : ∀ x ∈ bl (joinF ⟨#[32]⟩ 0 ⟨#[]⟩ (rows.map rowTx)), x = 32 ∨ TxB x := by
  intro x hx
  rw [joinF_jl] at hx
  rcases jl_mem2 hx with e | ⟨p, hp, hx⟩
  · exact .inl e
  · simp only [List.map_map, List.mem_map] at hp
    obtain ⟨r, _, rfl⟩ := hp
    exact .inr (rowTx_by r x hx)
theorem spl_rel (d : Rd) : splB 58 (relTx d) = [decI d.1, joinF ⟨#[32]⟩ 0 ⟨#[]⟩ (d.2.map rowTx)] := by
  have h2 : ∀ y ∈ bl (joinF ⟨#[32]⟩ 0 ⟨#[]⟩ (d.2.map rowTx)), y ≠ 58 := by
    intro y hy
    rcases rows_by _ y hy with e | e
    · rw [e]; decide
    · exact e.ne (by decide) (by decide) (by decide) (by decide) (by decide)
  have e : bl (relTx d) = bl (decI d.1) ++ 58 :: bl (joinF ⟨#[32]⟩ 0 ⟨#[]⟩ (d.2.map rowTx)) := by
    unfold relTx
    rw [bl_app, bl_app, List.append_assoc]
    rfl
  unfold splB
  rw [e, spl_two (decI_not (by decide) (by decide) _), spl_none h2]
  rfl
theorem spl_rows {rows : List (List Int)} (h : rows ≠ []) : splB 32 (joinF ⟨#[32]⟩ 0 ⟨#[]⟩ (rows.map rowTx)) = rows.map rowTx := by
  refine splB_joinF (by simpa using h) fun p hp y hy => ?_
  obtain ⟨r, _, rfl⟩ := List.mem_map.1 hp
  exact (rowTx_by r y hy).ne (by decide) (by decide) (by decide) (by decide) (by decide)
theorem rowTx_mid (r : List Int) : (rowTx r).extract 1 ((rowTx r).size - 1) = joinF ⟨#[44]⟩ 0 ⟨#[]⟩ (r.map decI) := by
  apply bl_inj
  rw [ext_bs, bl_bs, rowTx_size, ← bl_length, joinF_jl, bl_rowTx]
  rw [show (jl 44 ((r.map decI).map bl)).length + 2 - 1 = (jl 44 ((r.map decI).map bl)).length + 1 by omega, List.take_succ_cons, List.drop_succ_cons, List.drop_zero, List.take_left]
theorem jl_size {c : UInt8} {p : List UInt8} {ps : List (List UInt8)} (h : 1 ≤ p.length) : 1 ≤ (jl c (p :: ps)).length := by
  rw [jl_flat, List.length_append]
  omega
theorem nums_size {r : List Int} : (joinF ⟨#[44]⟩ 0 ⟨#[]⟩ (r.map decI)).size = 0 ↔ r = [] := by
  rw [← bl_length, joinF_jl]
  cases r with
  | nil => simp [jl]
  | cons z r =>
    rw [List.map_cons, List.map_cons]
    have := jl_size (c := 44) (ps := (r.map decI).map bl) (p := bl (decI z)) (by rw [bl_length]; exact decI_ne z)
    constructor
    · intro h; omega
    · intro h; cases h
theorem rows_size {rows : List (List Int)} : (joinF ⟨#[32]⟩ 0 ⟨#[]⟩ (rows.map rowTx)).size = 0 ↔ rows = [] := by
  rw [← bl_length, joinF_jl]
  cases rows with
  | nil => simp [jl]
  | cons r rows =>
    rw [List.map_cons, List.map_cons]
    have := jl_size (c := 32) (ps := (rows.map rowTx).map bl) (p := bl (rowTx r)) (by rw [bl_length, rowTx_size]; omega)
    constructor
    · intro h; omega
    · intro h; cases h
theorem spl_nums {r : List Int} (h : r ≠ []) : splB 44 (joinF ⟨#[44]⟩ 0 ⟨#[]⟩ (r.map decI)) = r.map decI := by
  refine splB_joinF (by simpa using h) fun p hp y hy => ?_
  obtain ⟨z, _, rfl⟩ := List.mem_map.1 hp
  exact decI_not (by decide) (by decide) z y hy
theorem plG_text : ∀ {r : List Int}, (∀ v ∈ r, v.natAbs < 1000000000) → ∀ acc, plG acc (r.map decI) = some (acc ++ r)
  | [], _, acc => by simp [plG]
  | v :: r, h, acc => by
    rw [List.map_cons, plG, pInt_decI (h v (by simp))]
    simp only
    rw [plG_text (fun u hu => h u (by simp [hu]))]
    simp
theorem pList_text {r : List Int} (h : ∀ v ∈ r, v.natAbs < 1000000000) : pList ((rowTx r).extract 1 ((rowTx r).size - 1)) = some r := by
  rw [rowTx_mid]
  unfold pList
  by_cases h0 : r = []
  · rw [if_pos (nums_size.2 h0), h0]
  · rw [if_neg (fun e => h0 (nums_size.1 e)), spl_nums h0, plG_text h]
    rfl
theorem rowS_text {r : List Int} (h : ∀ v ∈ r, v.natAbs < 1000000000) : rowS (rowTx r) = r := by
  have hz := nums_size (r := r)
  unfold rowS
  rw [rowTx_mid, rowTx_size]
  by_cases h0 : r = []
  · rw [if_neg (by rw [hz.2 h0]; omega), h0]
  · rw [if_pos (by have hne : (joinF ⟨#[44]⟩ 0 ⟨#[]⟩ (r.map decI)).size ≠ 0 := fun e => h0 (hz.1 e); omega), spl_nums h0, List.map_map]
    conv => rhs; rw [← List.map_id r]
    refine List.map_congr_left fun v hv => ?_
    show (pInt (decI v)).getD 0 = v
    rw [pInt_decI (h v hv)]
    rfl
theorem prG_text : ∀ {rows : List (List Int)}, (∀ r ∈ rows, ∀ v ∈ r, v.natAbs < 1000000000) → ∀ acc, prG acc (rows.map rowTx) = some (acc ++ rows)
  | [], _, acc => by simp [prG]
  | r :: rows, h, acc => by
    rw [List.map_cons, prG, if_neg (by rw [rowTx_size]; omega), pList_text (h r (by simp))]
    simp only
    rw [prG_text (fun u hu => h u (by simp [hu]))]
    simp
theorem pRel_text {d : Rd} (h : rowsB d.1 d.2 = true) : pRel (fmtR d) = some d := by
  have ok := rowsB_ok h
  have e : fmtR d = relTx d := by unfold fmtR; rw [if_pos h]
  have hs := finR_self h
  rw [e] at hs ⊢
  unfold pRel
  rw [spl_rel]
  simp only [List.getD_cons_zero, List.getD_cons_succ, List.length_cons, List.length_nil, pInt_decI ok.a, if_true]
  by_cases h0 : d.2 = []
  · rw [if_pos (rows_size.2 h0), ← hs]
    congr 1
    exact Prod.ext rfl h0.symm
  · rw [if_neg (fun e => h0 (rows_size.1 e)), spl_rows h0, prG_text ok.v]
    exact hs
theorem pRelS_text {d : Rd} (h : rowsB d.1 d.2 = true) : pRelS (fmtR d) = some d := by
  have ok := rowsB_ok h
  have e : fmtR d = relTx d := by unfold fmtR; rw [if_pos h]
  have hs := finR_self h
  rw [e] at hs ⊢
  have er : sRows (relTx d) = d.2 := by
    unfold sRows
    rw [spl_rel]
    simp only [List.getD_cons_zero, List.getD_cons_succ, List.length_cons, List.length_nil]
    by_cases h0 : d.2 = []
    · rw [if_neg (by simp [rows_size.2 h0]), h0]
    · rw [if_pos ⟨trivial, fun e => h0 (rows_size.1 e)⟩, spl_rows h0, List.map_map]
      conv => rhs; rw [← List.map_id d.2]
      exact List.map_congr_left fun r hr => rowS_text (ok.v r hr)
  unfold pRelS
  rw [er, spl_rel]
  simp only [List.getD_cons_zero, pInt_decI ok.a, Option.getD_some]
  exact hs
theorem pRelS_eq (s : ByteArray) : pRelS s = pRel s := by
  cases h : pRel s with
  | some r =>
    obtain ⟨h1, rfl⟩ := pRel_some h
    exact pRelS_text h1
  | none =>
    cases h2 : pRelS s with
    | none => rfl
    | some r =>
      obtain ⟨h1, rfl⟩ := pRelS_some h2
      rw [pRel_text h1] at h
      cases h
/-! databases -/
theorem fdG_eq : ∀ (d : Dbd) (acc : ByteArray), bl (fdG acc d) = bl acc ++ ((d.map fun t => bl (lineT t)).map (· ++ [10])).flatten
  | [], acc => by simp [fdG]
  | t :: d, acc => by
    rw [fdG, fdG_eq d, bl_app, bl_app]
    simp
    rfl
theorem spl_lines {c : UInt8} : ∀ {ls : List (List UInt8)}, (∀ l ∈ ls, ∀ x ∈ l, x ≠ c) → spl c (ls.map (· ++ [c])).flatten = ls ++ [[]]
  | [], _ => by simp [spl]
  | l :: ls, h => by
    rw [List.map_cons, List.flatten_cons, List.append_assoc, List.singleton_append, spl_two (h l (by simp)), spl_lines (fun k hk => h k (by simp [hk]))]
    rfl
theorem name_let {s : ByteArray} (h : nameB s = true) : ∀ x ∈ bl s, letB x = true := by
  unfold nameB at h
  rw [Bool.and_eq_true, List.all_eq_true] at h
  exact h.2
theorem let_no {x c : UInt8} (h : letB x = true) (hc : letB c = false) : x ≠ c := by
  rintro rfl
  rw [h] at hc
  cases hc
theorem relTx_by (d : Rd) : ∀ x ∈ bl (relTx d), x = 32 ∨ x = 58 ∨ TxB x := by
  intro x hx
  unfold relTx at hx
  rw [bl_app, bl_app] at hx
  rcases List.mem_append.1 hx with hx | hx
  · rcases List.mem_append.1 hx with hx | hx
    · rcases decI_by d.1 x hx with e | e
      · exact .inr (.inr (.inl e))
      · exact .inr (.inr (.inr (.inl e)))
    · exact .inr (.inl (List.mem_singleton.1 hx))
  · rcases rows_by _ x hx with e | e
    · exact .inl e
    · exact .inr (.inr e)
theorem relTx_ne {d : Rd} : ∀ x ∈ bl (relTx d), x ≠ 10 ∧ x ≠ 61 := by
  intro x hx
  rcases relTx_by d x hx with e | e | e
  · rw [e]; decide
  · rw [e]; decide
  · exact ⟨e.ne (by decide) (by decide) (by decide) (by decide) (by decide), e.ne (by decide) (by decide) (by decide) (by decide) (by decide)⟩
theorem bl_lineT {t : Td} (h : TOk t) : bl (lineT t) = bl t.1 ++ 61 :: bl (relTx t.2) := by
  unfold lineT fmtR
  rw [if_pos h.rel, bl_app, bl_app, List.append_assoc]
  rfl
theorem lineT_ne {t : Td} (h : TOk t) : ∀ x ∈ bl (lineT t), x ≠ 10 := by
  intro x hx
  rw [bl_lineT h] at hx
  rcases List.mem_append.1 hx with hx | hx
  · exact let_no (name_let h.nm x hx) (by decide)
  · rcases List.mem_cons.1 hx with e | hx
    · rw [e]; decide
    · exact (relTx_ne x hx).1
theorem spl_line {t : Td} (h : TOk t) : splB 61 (lineT t) = [t.1, fmtR t.2] := by
  unfold splB
  rw [bl_lineT h, spl_two (fun y hy => let_no (name_let h.nm y hy) (by decide)), spl_none (fun y hy => (relTx_ne y hy).2)]
  unfold fmtR
  rw [if_pos h.rel]
  rfl
theorem spl_db {d : Dbd} (h : ∀ t ∈ d, TOk t) : (splB 10 (fdG ⟨#[]⟩ d)).dropLast = d.map lineT := by
  unfold splB
  rw [fdG_eq, show bl ⟨#[]⟩ = [] from rfl, List.nil_append, spl_lines (by
    intro l hl
    obtain ⟨t, ht, rfl⟩ := List.mem_map.1 hl
    exact lineT_ne (h t ht)), List.map_append, List.map_map]
  simp
  exact fun a b c _ => rfl
theorem pdG_text : ∀ {d : Dbd}, (∀ t ∈ d, TOk t) → ∀ acc, pdG acc (d.map lineT) = some (acc ++ d)
  | [], _, acc => by simp [pdG]
  | t :: d, h, acc => by
    have ht := h t (by simp)
    rw [List.map_cons, pdG, spl_line ht]
    simp only [List.getD_cons_zero, List.getD_cons_succ, List.length_cons, List.length_nil, if_true, pRel_text ht.rel]
    rw [pdG_text (fun u hu => h u (by simp [hu]))]
    simp
theorem pdS_text : ∀ {d : Dbd}, (∀ t ∈ d, TOk t) → ∀ acc, pdS acc (d.map lineT) = some (acc ++ d)
  | [], _, acc => by simp [pdS]
  | t :: d, h, acc => by
    have ht := h t (by simp)
    rw [List.map_cons, pdS, spl_line ht]
    simp only [lastB, List.getD_cons_zero, List.getD_cons_succ, List.length_cons, List.length_nil, pRel_text ht.rel]
    rw [pdS_text (fun u hu => h u (by simp [hu]))]
    simp
theorem pDb_some {s : ByteArray} {d : Dbd} (h : pDb s = some d) : dbB d = true ∧ fmtD d = s := by
  unfold pDb at h
  split at h
  · cases h
  · rename_i e he
    unfold finD at h
    split at h
    · rename_i hf
      injection h with h
      subst h
      refine ⟨?_, hf⟩
      cases hv : dbB e with
      | true => rfl
      | false =>
        have hs : s = ⟨#[]⟩ := by rw [← hf]; unfold fmtD; rw [hv]; rfl
        subst hs
        rw [show (splB 10 ⟨#[]⟩).dropLast = [] from rfl, pdG] at he
        injection he with he
        rw [← he] at hv
        exact absurd hv (by decide)
    · cases h
theorem pDbS_some {s : ByteArray} {d : Dbd} (h : pDbS s = some d) : dbB d = true ∧ fmtD d = s := by
  unfold pDbS at h
  split at h
  · cases h
  · split at h
    · rename_i hf
      injection h with h
      subst h
      exact hf
    · cases h
theorem pDb_text {d : Dbd} (h : dbB d = true) : pDb (fmtD d) = some d := by
  have ok := (dbB_iff.1 h).2.1
  have e : fmtD d = fdG ⟨#[]⟩ d := by unfold fmtD; rw [if_pos h]
  unfold pDb
  rw [e, spl_db ok, pdG_text ok]
  unfold finD
  simp only [List.nil_append]
  rw [if_pos e]
theorem pDbS_text {d : Dbd} (h : dbB d = true) : pDbS (fmtD d) = some d := by
  have ok := (dbB_iff.1 h).2.1
  have e : fmtD d = fdG ⟨#[]⟩ d := by unfold fmtD; rw [if_pos h]
  unfold pDbS
  rw [e, spl_db ok, pdS_text ok]
  simp only [List.nil_append]
  rw [if_pos ⟨h, e⟩]
theorem pDbS_eq (s : ByteArray) : pDbS s = pDb s := by
  cases h : pDb s with
  | some r =>
    obtain ⟨h1, rfl⟩ := pDb_some h
    exact pDbS_text h1
  | none =>
    cases h2 : pDbS s with
    | none => rfl
    | some r =>
      obtain ⟨h1, rfl⟩ := pDbS_some h2
      rw [pDb_text h1] at h
      cases h
end Go.Proofs.Ytfigcfajkilhiaa

/- The reference's draws of rows and relations. -/
namespace Go.Proofs.Ytfigcfajkilhiaa
open Go.RowKit
def RowDP (w0 : World) (g n : Nat) (most : Int) (w : World) (e : Ending) (w' : World) : Prop := ∃ v F xs, e = .returned v ∧ SV 3 1 sI w' v xs F ∧ (∀ b ∈ F, w.heap.size ≤ b) ∧ xs.length = n ∧ (∀ x ∈ xs, 0 ≤ x ∧ x < most) ∧ Cur w0 w' g ∧ Chg [g] w w'
set_option maxHeartbeats 4000000 in
theorem l4Row_any {g n : Nat} {most : Int} {w0 w : World} (hc : Cur w0 w g) (hn : n ≤ 10) (hm : 1 ≤ most) (hm2 : most ≤ 256) :
    Calls Try.prog 155 #[.pointer (some ⟨g, 0, none⟩), .int .i64 n, .int .i64 most] w (RowDP w0 g n most w) := by
  have hgw := hc.lt
  have hw0w := size_of_ext hc.2.1
  have hS0 := SV.empty (α := Int) (te := 3) (size := 1) (E := sI) w
  have hc0 := hc.toExt (alloc_ext w (.cells #[] 3))
  go_enter Try.func155, Try.ntmps155
  go_wp2
  go_loopw [7] (fun v wr => ∃ (xs : List Int) (F : List Nat), SV 3 1 sI wr v xs F ∧ (∀ b ∈ F, w.heap.size ≤ b) ∧ xs.length ≤ n ∧ (∀ x ∈ xs, 0 ≤ x ∧ x < most) ∧ Cur w0 wr g ∧ Chg [g] w wr) (fun v _ => n - lenR v)
  case atStart => exact ⟨[], [w.heap.size], hS0, by simp, by simp, by simp, hc0, (Chg.refl [g] w).alloc _⟩
  case round =>
    clear hS0 hc0 hc
    obtain ⟨xs, F, hS, hF, hl, hr, hcr, hC⟩ := hrel
    have HF := Lib.hid hF
    have HS := Lib.hid hS
    have HR := Lib.hid hr
    have HC := Lib.hid hC
    have Hcr := Lib.hid hcr
    have hzr := hC.size
    have ngF : Hid (∀ b ∈ F, b ∉ [g]) := Lib.hid (fun b hb h => by have := hF b hb; simp at h; omega)
    obtain ⟨A, cap, rfl, _, _⟩ := hS.form
    clear hS hF hC hr hcr
    by_cases hlt : xs.length < n
    · go_wp2_with fail
      refine (l1Below_any Hcr.out (by omega) (by omega)).mono ?_
      rintro e w1 ⟨x, rfl, hx0, hx1, hc1, hC1⟩
      have hX1 := HS.out.chg hC1 ngF.out
      have HC1 := Lib.hid (HC.out.trans hC1 (fun x hx => .inl hx))
      have Hc1 := Lib.hid hc1
      have hz1 := HC1.out.size
      clear hc1 hC1
      go_wp2_with (at_builtin; refine wpList_app1 (E := sI) (d := x) rfl _ _ _ rfl tI rfl rfl rfl (by simp) (fun _ => ⟨rfl, rfl⟩) rfl (by simp [Value.oneCell']) hX1 (by omega) (by omega) ?_; intro v' w' F' hS' hC' hF')
      have hR' : ∀ y ∈ xs ++ [x], 0 ≤ y ∧ y < most := fun y hy => by
        rcases List.mem_append.1 hy with h | h
        · exact HR.out y h
        · rw [List.mem_singleton.1 h]; exact ⟨hx0, hx1⟩
      exact ⟨⟨xs ++ [x], F', hS', newer HF.out hz1 hF', by simp; omega, hR', Hc1.out.chg hC' (fun h => ngF.out g h (by simp)) (fun b hb => Nat.le_trans hw0w (HF.out b hb)), HC1.out.trans hC' (fun x hx => .inr (HF.out x hx))⟩, by have e := hS'.form; obtain ⟨A', c', rfl, _⟩ := e; simp [lenR]; omega⟩
    · have HL := Lib.hid (show xs.length = n by omega)
      go_wp2
      go_ret
      exact ⟨_, F, xs, rfl, HS.out, HF.out, HL.out, HR.out, Hcr.out, HC.out⟩
/-- a small relation drawn -/
structure RelD (r : Rd) (a m : Nat) (val : Int) : Prop where
  ar : r.1 = (a : Int)
  n : r.2.length ≤ m
  ok : rowsB r.1 r.2 = true
  v : ∀ x ∈ r.2, ∀ y ∈ x, 0 ≤ y ∧ y < val
theorem relD_mk {a m : Nat} {val : Int} {rows : List (List Int)} (ha : a ≤ 5) (hm : m ≤ 4000) (hv : val ≤ 100) (hn : rows.length ≤ m) (hr : ∀ x ∈ rows, x.length = a ∧ ∀ y ∈ x, 0 ≤ y ∧ y < val) : newR (a : Int) rows = some ((a : Int), sortR rows) ∧ RelD ((a : Int), sortR rows) a m val := by
  have hl := sortR_length rows
  have e := newR_some (a := (a : Int)) (rows := rows) (rowsIn_iff.2 fun r h => ⟨by rw [(hr r h).1], rowV_iff.2 fun x hx => by have := (hr r h).2 x hx; omega⟩) (by omega) (by omega) (by omega)
  exact ⟨e, rfl, by show (sortR rows).length ≤ m; omega, (newR_valid e).1, fun x hx => (hr x (mem_sortR.1 hx)).2⟩
def RelDP (w0 : World) (g a m : Nat) (val : Int) (w : World) (e : Ending) (w' : World) : Prop := ∃ v0 v1 F r, e = .returned (.agg #[v0, v1]) ∧ sRel w' [v0, v1] r F ∧ F.Nodup ∧ (∀ b ∈ F, w.heap.size ≤ b) ∧ RelD r a m val ∧ Cur w0 w' g ∧ Chg [g] w w'
set_option maxRecDepth 100000 in
set_option maxHeartbeats 8000000 in
theorem l5Rel_any {g a m : Nat} {val : Int} {w0 w : World} (hc : Cur w0 w g) (ha : a ≤ 5) (hm : m ≤ 100) (hv : 1 ≤ val) (hv2 : val ≤ 100) :
    Calls Try.prog 135 #[.pointer (some ⟨g, 0, none⟩), .int .i64 a, .int .i64 m, .int .i64 val] w (RelDP w0 g a m val w) := by
  have hgw := hc.lt
  have hw0w := size_of_ext hc.2.1
  have Hc0 := Lib.hid hc
  clear hc
  go_enter Try.func135, Try.ntmps135
  go_upto_region 1 with fail
  refine wp_name ?_
  intro W hW
  have xW : ∃ y, W = ext w y := by rw [hW.out]; exact (by refine x'z ?_; repeat (with_reducible (first | exact x'a _ _ | exact x'b _ | exact x'c (by assumption) | refine x'd ?_ (by assumption) | refine x'e ?_ _ | refine x'f ?_ _ | refine x'g ?_ | refine x'h ?_ ?_ _ | refine x'i ?_ _ | refine x'j ?_ | refine x'k ?_ _ | refine x'l ?_ _ _ | refine x'm ?_ | assumption | (refine x'n ?_; omega) | omega)))
  have BW0 : BoxAt W (w.heap.size) #[.int .i64 0, .slice none 0 0] := by rw [hW.out]; refine ⟨?_, fun j => ?_, fun j => ?_⟩ <;> go_simp
  obtain ⟨lW0, bW0, fW0⟩ := BW0
  have cW0_0 : W.cell? ⟨w.heap.size, 0, none⟩ = some (.int .i64 0) := bW0 0
  have cW0_1 : W.cell? ⟨w.heap.size, 1, none⟩ = some (.slice none 0 0) := bW0 1
  clear hW
  have HB := Lib.hid (show BoxAt W w.heap.size #[.int .i64 0, .slice none 0 0] from ⟨lW0, bW0, fW0⟩)
  clear bW0 fW0 cW0_0 cW0_1
  have HcW := Lib.hid (Hc0.out.toExt xW)
  have hS0 := SV.empty (α := List Int) (te := 48) (size := 1) (E := sRow) W
  have hcA := HcW.out.toExt (alloc_ext W (.cells #[] 48))
  have im : IntKind.i64.wrap ((m : Int) + 1) = (m : Int) + 1 := by rw [IntKind.wrap_i64]; omega
  go_wp2_with fail
  refine (l1Below_any hcA (by omega) (by omega)).mono ?_
  rintro e w1 ⟨x, rfl, hx0, hx1, hc1, hC1⟩
  obtain ⟨k0, rfl⟩ : ∃ k : Nat, x = k := ⟨x.toNat, by omega⟩
  have hS1 := hS0.chg hC1 (by simp; omega)
  have HB1 := Lib.hid ((HB.out.toExt (alloc_ext W (.cells #[] 48))).chg hC1 (by simp; omega))
  have HCW := Lib.hid (show Chg [g] w w1 from (((Chg.ofExt xW).alloc (.cells #[] 48))).trans hC1 (fun x hx => .inl hx))
  have hc1' := hc1
  have hzW := size_of_ext xW
  have hzw1 := hC1.size
  rw [World.size_alloc] at hzw1
  clear hS0 hcA hC1
  go_wp2_with fail
  go_loopw [9, 10] (fun v i wr => ∃ (k : Nat) (rows : List (List Int)) (F : List Nat), i = .int .i64 k ∧ SV 48 1 sRow wr v rows F ∧ F.Nodup ∧ (∀ b ∈ F, W.heap.size ≤ b) ∧ rows.length + k ≤ m ∧ (∀ x ∈ rows, x.length = a ∧ ∀ y ∈ x, 0 ≤ y ∧ y < val) ∧ Cur w0 wr g ∧ Chg [g] w wr ∧ BoxAt wr w.heap.size #[.int .i64 0, .slice none 0 0] ∧ W.heap.size ≤ wr.heap.size) (fun _ i _ => (intOf i).toNat)
  case atStart => exact ⟨k0, [], [W.heap.size], rfl, hS1, by simp, by simp, by simp; omega, by simp, hc1', HCW.out, HB1.out, by have := hzw1; omega⟩
  case round =>
    clear hS1 hc1 hc1'
    obtain ⟨k, rows, F, rfl, hS, hN, hF, hl, hr, hcr, hC, hBr, hWr⟩ := hrel
    have HBr := Lib.hid hBr
    have hBl := hBr.1
    have nBF : Hid (w.heap.size ∉ F) := Lib.hid (fun h => by have := hF _ h; omega)
    have HF := Lib.hid hF
    have HS := Lib.hid hS
    have HN := Lib.hid hN
    have HR := Lib.hid hr
    have HC := Lib.hid hC
    have Hcr := Lib.hid hcr
    have hzr := hC.size
    have hz1 := HCW.out.size
    have hgr := hcr.lt
    have ngF : Hid (∀ b ∈ F, b ∉ [g]) := Lib.hid (fun b hb h => by have := hF b hb; simp at h; omega)
    obtain ⟨A, cap, rfl, hcap, _⟩ := hS.form
    clear hS hF hC hN hr hcr hBr
    by_cases hlt : 0 < k
    · go_wp2_with fail
      refine (l4Row_any Hcr.out (by omega) hv (by omega)).mono ?_
      rintro e w2 ⟨v2, F2, xs, rfl, hS2, hF2, hl2, hr2, hc2, hC2⟩
      obtain ⟨A2, c2, rfl, _, _⟩ := hS2.form
      have HS2 := Lib.hid hS2
      have HF2 := Lib.hid hF2
      have Hc2 := Lib.hid hc2
      have hSk := HS.out.chg hC2 ngF.out
      have HCk := Lib.hid (HC.out.trans hC2 (fun x hx => .inl hx))
      have hNN := nodup_more HN.out hS2.nodup HS.out.lt hF2
      have HR2 := Lib.hid hr2
      have HL2 := Lib.hid hl2
      have hz2 := HCk.out.size
      have HC2 := Lib.hid hC2
      have hz22 := hC2.size
      clear hS2 hF2 hc2 hC2 hr2 hl2
      go_wp2_with (at_builtin; refine wpList_appN (E := sRow) (d := xs) (G := F2) rfl _ _ _ rfl tIIr rfl rfl rfl (by simp) ⟨_, rfl, HS2.out⟩ rfl (by simp [Value.oneCell']) hSk hNN (by omega) (by omega) ?_; intro v' w' F' hS' hC' hN' hF')
      have hFn : ∀ b ∈ F', W.heap.size ≤ b := fun b hb => by
        rcases hF' b hb with h | h | h
        · exact HF.out b h
        · have := HF2.out b h; omega
        · omega
      have hR' : ∀ y ∈ rows ++ [xs], y.length = a ∧ ∀ z ∈ y, 0 ≤ z ∧ z < val := fun y hy => by
        rcases List.mem_append.1 hy with h | h
        · exact HR.out y h
        · rw [List.mem_singleton.1 h]; exact ⟨HL2.out, HR2.out⟩
      exact ⟨⟨k - 1, rows ++ [xs], F', by go_num, hS', hN', hFn, by simp; omega, hR', Hc2.out.chg hC' (fun h => ngF.out g h (by simp)) (fun b hb => by have := HF.out b hb; omega), HCk.out.trans hC' (fun x hx => .inr (by have := HF.out x hx; omega)), (HBr.out.chg HC2.out (by simp; omega)).chg hC' nBF.out, by have := hC'.size; have := HC2.out.size; omega⟩, by simp [intOf]; omega⟩
    · obtain ⟨hnew, hD⟩ := relD_mk (a := a) (m := m) (val := val) (rows := rows) ha (by omega) hv2 (by omega) HR.out
      have HNEW := Lib.hid hnew
      have HD := Lib.hid hD
      have hV := HS.out.view (sSl_v sI_v)
      obtain ⟨_, _, e5, _, _, rV⟩ := hV
      injection e5 with e5 _ e6
      subst e5 e6
      have HRL : Hid (∀ x ∈ rows, x.length ≤ 1000000000) := Lib.hid (fun x hx => by have := (HR.out x hx).1; omega)
      clear hnew hD
      go_wp2_with fail
      refine (specNewRelation_any ⟨by omega, by omega⟩ (by omega) hcap HRL.out rV).mono ?_
      rintro e w3 ⟨u0, u1, F3, rfl, hx3, hS3, hN3, hF3⟩
      rw [HNEW.out] at hS3 ⊢
      obtain ⟨A3, c3, rfl, rfl, _⟩ := sRel_form hS3
      simp only [Option.getD_some, Option.isSome_some] at hS3 ⊢
      have B3 := HBr.out.toExt hx3
      obtain ⟨lr3, r30, r31, fr3⟩ := bx2 B3
      have HX3 := Lib.hid hx3
      have hz3 := size_of_ext hx3
      have HS3 := Lib.hid hS3
      have HN3 := Lib.hid hN3
      have HF3 := Lib.hid hF3
      clear hx3 hS3 hN3 hF3 B3
      go_wp2
      refine bodyPost_ret (v := .agg #[.int .i64 a, .slice A3 (sortR rows).length c3]) (by simp [results, Try.results135, go_sem, *]) rfl ?_
      show RelDP w0 g a m val w _ _
      have hC9 := (((Chg.refl [w.heap.size] w3).setCell (p := ⟨w.heap.size, 0, none⟩) (.inl (by simp)) (.int .i64 a)).setCell (p := ⟨w.heap.size, 1, none⟩) (.inl (by simp)) (.slice A3 (sortR rows).length c3)).alloc (.cells #[.int .i64 a, .slice A3 (sortR rows).length c3] 39)
      exact ⟨_, _, F3, _, rfl, OD.chg HS3.out hC9 (fun b hb h => by have := HF3.out b hb; rw [List.mem_singleton.1 h] at this; omega), HN3.out, fun b hb => by have := HF3.out b hb; omega, HD.out, (Hcr.out.toExt HX3.out).chg hC9 (by simp; omega) (by simp; omega), (HC.out.trans0 HX3.out).trans hC9 (fun x hx => .inr (by rw [List.mem_singleton.1 hx]; omega))⟩
theorem l5Rel_64 {g a : Nat} {w0 w : World} (hc : Cur w0 w g) (ha : a ≤ 5) : Calls Try.prog 135 #[.pointer (some ⟨g, 0, none⟩), .int .i64 a, .int .i64 6, .int .i64 4] w (RelDP w0 g a 6 4 w) := l5Rel_any (m := 6) hc ha (by omega) (by omega) (by omega)
theorem l5Rel_63 {g a : Nat} {w0 w : World} (hc : Cur w0 w g) (ha : a ≤ 5) : Calls Try.prog 135 #[.pointer (some ⟨g, 0, none⟩), .int .i64 a, .int .i64 6, .int .i64 3] w (RelDP w0 g a 6 3 w) := l5Rel_any (m := 6) hc ha (by omega) (by omega) (by omega)
structure AnyR (r : Rd) : Prop where
  a : I64 r.1
  n : r.2.length ≤ 7
  l : ∀ x ∈ r.2, x.length ≤ 10
def AnyRP (w0 : World) (g : Nat) (w : World) (e : Ending) (w' : World) : Prop := ∃ v0 v1 F r, e = .returned (.agg #[v0, v1]) ∧ sRel w' [v0, v1] r F ∧ F.Nodup ∧ (∀ b ∈ F, w.heap.size ≤ b) ∧ AnyR r ∧ Cur w0 w' g ∧ Chg [g] w w'
set_option maxRecDepth 100000 in
set_option maxHeartbeats 8000000 in
theorem l5Any_any {g : Nat} {w0 w : World} (hc : Cur w0 w g) : Calls Try.prog 129 #[.pointer (some ⟨g, 0, none⟩)] w (AnyRP w0 g w) := by
  have hgw := hc.lt
  have hw0w := size_of_ext hc.2.1
  have Hc0 := Lib.hid hc
  clear hc
  go_enter Try.func129, Try.ntmps129
  go_upto_region 1 with fail
  refine wp_name ?_
  intro W hW
  have xW : ∃ y, W = ext w y := by rw [hW.out]; exact (by refine x'z ?_; repeat (with_reducible (first | exact x'a _ _ | exact x'b _ | exact x'c (by assumption) | refine x'd ?_ (by assumption) | refine x'e ?_ _ | refine x'f ?_ _ | refine x'g ?_ | refine x'h ?_ ?_ _ | refine x'i ?_ _ | refine x'j ?_ | refine x'k ?_ _ | refine x'l ?_ _ _ | refine x'm ?_ | assumption | (refine x'n ?_; omega) | omega)))
  have BW0 : BoxAt W (w.heap.size) #[.int .i64 0, .slice none 0 0] := by rw [hW.out]; refine ⟨?_, fun j => ?_, fun j => ?_⟩ <;> go_simp
  obtain ⟨lW0, bW0, fW0⟩ := BW0
  have cW0_0 : W.cell? ⟨w.heap.size, 0, none⟩ = some (.int .i64 0) := bW0 0
  have cW0_1 : W.cell? ⟨w.heap.size, 1, none⟩ = some (.slice none 0 0) := bW0 1
  clear hW
  have HB := Lib.hid (show BoxAt W w.heap.size #[.int .i64 0, .slice none 0 0] from ⟨lW0, bW0, fW0⟩)
  clear bW0 fW0 cW0_0 cW0_1
  have HcW := Lib.hid (Hc0.out.toExt xW)
  go_wp2_with fail
  refine (l1Below_any HcW.out (by omega) (by omega)).mono ?_
  rintro e w1 ⟨x, rfl, hx0, hx1, hc1, hC1⟩
  obtain ⟨k, rfl⟩ : ∃ k : Nat, x = k := ⟨x.toNat, by omega⟩
  have hzW := size_of_ext xW
  have hz1 := hC1.size
  go_wp2_with fail
  refine (l5Rel_64 hc1 (by omega)).mono ?_
  rintro e w2 ⟨v0, v1, F2, r, rfl, hS2, hN2, hF2, hD2, hc2, hC2⟩
  obtain ⟨A2, c2, rfl, rfl, hI2⟩ := sRel_form hS2
  obtain ⟨ra, rows⟩ := r
  have har := hD2.ar
  dsimp only at har
  subst har
  have hrn := hD2.n
  have HRK := Lib.hid (show ∀ x ∈ rows, x.length = k from fun x hx => by have := ((rowsB_iff.1 hD2.ok).2.2.2.1 x hx).1; dsimp only at this; omega)
  have HRL := Lib.hid (show ∀ x ∈ rows, x.length ≤ 10 from fun x hx => by have := (rowsB_sz hD2.ok).rl x hx; omega)
  obtain ⟨v1', ev1, S2⟩ := hI2
  injection ev1 with ev1
  subst ev1
  dsimp only at S2 hrn ⊢
  have hz2 := hC2.size
  have HN2 := Lib.hid hN2
  have HF2 := Lib.hid hF2
  have HC2 := Lib.hid (((Chg.ofExt (F := [g]) xW).trans hC1 (fun x hx => .inl hx)).trans hC2 (fun x hx => .inl hx))
  have HR2 := Lib.hid ((HB.out.chg hC1 (by simp; omega)).chg hC2 (by simp; omega))
  clear hS2 hN2 hF2 hD2 hC1 hC2 hc1
  go_upto_region 2 with fail
  refine wp_name ?_
  intro W3 hW3
  have x3 : ∃ y, W3 = ext w2 y := by rw [hW3.out]; exact (by refine x'z ?_; repeat (with_reducible (first | exact x'a _ _ | exact x'b _ | exact x'c (by assumption) | refine x'd ?_ (by assumption) | refine x'e ?_ _ | refine x'f ?_ _ | refine x'g ?_ | refine x'h ?_ ?_ _ | refine x'i ?_ _ | refine x'j ?_ | refine x'k ?_ _ | refine x'l ?_ _ _ | refine x'm ?_ | assumption | (refine x'n ?_; omega) | omega)))
  have B3 : BoxAt W3 w2.heap.size #[.int .i64 k, .slice A2 rows.length c2] := by rw [hW3.out]; exact (by repeat (with_reducible (first | assumption | exact BoxAt.new _ _ _ | apply BoxAt.set2 | refine BoxAt.set2' ?_ (by omega) | apply BoxAt.setP0 | apply BoxAt.setP1 | refine BoxAt.setO ?_ (by omega) | refine BoxAt.alloc ?_ _ | refine BoxAt.drew ?_ | refine BoxAt.toExt ?_ (by assumption))))
  have hS3 := S2.toExt x3
  have hc3 := hc2.toExt x3
  have hFl := S2.lt
  obtain ⟨b3, q3⟩ : ∃ b, w2.heap.size = b := ⟨_, rfl⟩
  have h32 : w2.heap.size ≤ b3 := by omega
  rw [q3] at B3 hFl ⊢
  have h3W : b3 < W3.heap.size := B3.1
  have hz3 := size_of_ext x3
  have HC3 := Lib.hid (HC2.out.trans0 x3)
  have HR3 := Lib.hid (HR2.out.toExt x3)
  clear hW3 q3 S2 hc2
  go_wp2_with fail
  refine (l1Below_any hc3 (by omega) (by omega)).mono ?_
  rintro e w4 ⟨x, rfl, hx0, hx1, hc4, hC4⟩
  have n3g : b3 ≠ g := by omega
  have HB4 := Lib.hid (B3.chg hC4 (by simpa using n3g))
  have HS4 := Lib.hid (hS3.chg hC4 (fun b hb h => by have := HF2.out b hb; rw [List.mem_singleton.1 h] at this; omega))
  have HC4 := Lib.hid (HC3.out.trans hC4 (fun x hx => .inl hx))
  have HR4 := Lib.hid (HR3.out.chg hC4 (by simp; omega))
  have Hc4 := Lib.hid hc4
  have hz4 := hC4.size
  have HF4 := Lib.hid (show ∀ b ∈ F2, W.heap.size ≤ b ∧ b < b3 from fun b hb => ⟨by have := HF2.out b hb; omega, hFl b hb⟩)
  clear B3 hS3 hc3 hC4 hc4 hFl HF2 HC2 HR2 HC3 HR3 x3
  by_cases e0 : x = 0
  · have q0 : (x == 0) = true := by simp [e0]
    have q1 : (x == 1) = false := by simp [e0]
    have q2 : (x == 2) = false := by simp [e0]
    have ik : IntKind.i64.wrap ((k : Int) + 1) = (k : Int) + 1 := by rw [IntKind.wrap_i64]; omega
    obtain ⟨l4, k4, k4', f4⟩ := bx2 HB4.out
    clear e0
    go_wp2_with fail
    refine (l1PickInt_any (Hc4.out.toExt (alloc_ext _ _)) (by omega) (by omega) (BoxAt.new _ _ _) (by intro j hj; rcases j with _ | _ | _ | j <;> first | exact ⟨_, rfl⟩ | omega) (by omega)).mono ?_
    rintro e w5 ⟨z, j, rfl, hj, hz, hc5, hC5⟩
    have hzb : -1 ≤ z ∧ z ≤ 6 := by
      rcases j with _ | _ | _ | j <;> first | omega | (simp at hz; omega)
    have B5 := (HB4.out.alloc (.cells #[.int .i64 (-1), .int .i64 6, .int .i64 ((k : Int) + 1)] 3)).chg hC5 (by simpa using n3g)
    have R5 := (HR4.out.alloc (.cells #[.int .i64 (-1), .int .i64 6, .int .i64 ((k : Int) + 1)] 3)).chg hC5 (by simp; omega)
    have S5 := (HS4.out.toExt (alloc_ext w4 (.cells #[.int .i64 (-1), .int .i64 6, .int .i64 ((k : Int) + 1)] 3))).chg hC5 (fun b hb h => by have := HF4.out b hb; rw [List.mem_singleton.1 h] at this; omega)
    have C5 := (HC4.out.alloc (.cells #[.int .i64 (-1), .int .i64 6, .int .i64 ((k : Int) + 1)] 3)).trans hC5 (fun x hx => .inl hx)
    have hsC := (Chg.refl [b3] w5).setCell (p := ⟨b3, 0, none⟩) (.inl (by simp)) (.int .i64 z)
    have HB9 := Lib.hid (B5.setP0 (u' := .int .i64 z))
    have HR9 := Lib.hid (R5.chg hsC (by simp; omega))
    have HS9 := Lib.hid (S5.chg hsC (fun b hb h => by have := HF4.out b hb; rw [List.mem_singleton.1 h] at this; omega))
    have HC9 := Lib.hid (C5.trans hsC (fun x hx => .inr (by rw [List.mem_singleton.1 hx]; omega)))
    have Hc9 := Lib.hid (hc5.chg hsC (by simp; omega) (by simp; omega))
    have HN9 := HN2
    have HF9 := Lib.hid (show ∀ b ∈ F2, W.heap.size ≤ b from fun b hb => (HF4.out b hb).1)
    have HA9 := Lib.hid (show AnyR (z, rows) from ⟨⟨by dsimp only; omega, by dsimp only; omega⟩, by dsimp only; omega, HRL.out⟩)
    obtain ⟨l5, k5, k5', f5⟩ := bx2 B5
    clear l4 k4 k4' f4 hz hc5 hC5 B5 R5 S5 C5 hsC
    go_upto_region 10 with fail
    clear l5 k5 k5' f5
    obtain ⟨lf1, kf10, kf11, ff1⟩ := bx2 HB9.out
    obtain ⟨lf2, kf20, kf21, ff2⟩ := bx2 HR9.out
    go_wp2_with fail
    refine bodyPost_ret (v := .agg #[.int .i64 (z), .slice A2 rows.length c2]) (by simp [results, Try.results129, go_sem, *]) rfl ?_
    show AnyRP w0 g w _ _
    have hC9 := (((Chg.refl [w.heap.size] (w5.setCell ⟨b3, 0, none⟩ (.int .i64 z))).setCell (p := ⟨w.heap.size, 0, none⟩) (.inl (by simp)) (.int .i64 (z))).setCell (p := ⟨w.heap.size, 1, none⟩) (.inl (by simp)) (.slice A2 rows.length c2))
    exact ⟨_, _, F2, (z, rows), rfl, OD.chg (sRel_mk ⟨_, rfl, HS9.out⟩) hC9 (fun b hb h => by have := HF9.out b hb; rw [List.mem_singleton.1 h] at this; omega), HN9.out, fun b hb => by have := HF9.out b hb; omega, HA9.out, Hc9.out.chg hC9 (by simp; omega) (by simp; omega), HC9.out.trans hC9 (fun x hx => .inr (by rw [List.mem_singleton.1 hx]; omega))⟩
  · have q0 : (x == 0) = false := by simp [e0]
    by_cases e1 : x = 1
    · have q1 : (x == 1) = true := by simp [e1]
      have q2 : (x == 2) = false := by simp [e1]
      have hmax : (if 0 < k then (k : Int) else 0) = (k : Int) := by split <;> omega
      obtain ⟨l4, k4, k4', f4⟩ := bx2 HB4.out
      have h3F : b3 ∉ F2 := fun h => by have := HF4.out b3 h; omega
      clear e0 e1
      go_upto_region 6 with fail
      go_region_law (first
        | (refine step_appB (E := sRow) (d := xs) (G := F6) (cs := #[.slice A6 xs.length c6]) (by rfl) _ _ _ (by rfl) tIIr (by rfl) (by rfl) (by (repeat (with_reducible (first | assumption | exact BoxAt.new _ _ _ | apply BoxAt.set2 | refine BoxAt.set2' ?_ (by omega) | apply BoxAt.setP0 | apply BoxAt.setP1 | refine BoxAt.setO ?_ (by omega) | refine BoxAt.alloc ?_ _ | refine BoxAt.drew ?_ | refine BoxAt.toExt ?_ (by assumption))))) ⟨_, rfl, HS6.out.toExt (by refine x'z ?_; repeat (with_reducible (first | exact x'a _ _ | exact x'b _ | exact x'c (by assumption) | refine x'd ?_ (by assumption) | refine x'e ?_ _ | refine x'f ?_ _ | refine x'g ?_ | refine x'h ?_ ?_ _ | refine x'i ?_ _ | refine x'j ?_ | refine x'k ?_ _ | refine x'l ?_ _ _ | refine x'm ?_ | assumption | (refine x'n ?_; omega) | omega)))⟩ (by rfl) (by simp [Value.oneCell']) (HSO.out.toExt (by refine x'z ?_; repeat (with_reducible (first | exact x'a _ _ | exact x'b _ | exact x'c (by assumption) | refine x'd ?_ (by assumption) | refine x'e ?_ _ | refine x'f ?_ _ | refine x'g ?_ | refine x'h ?_ ?_ _ | refine x'i ?_ _ | refine x'j ?_ | refine x'k ?_ _ | refine x'l ?_ _ _ | refine x'm ?_ | assumption | (refine x'n ?_; omega) | omega)))) HNN.out (by omega) (by omega) ?_; intro v7 w7 F7 hS7 hC7 hN7 hF7; obtain ⟨A7, c7, rfl, _, _⟩ := hS7.form; have B7 := (HB6.out.toExt (by refine x'z ?_; repeat (with_reducible (first | exact x'a _ _ | exact x'b _ | exact x'c (by assumption) | refine x'd ?_ (by assumption) | refine x'e ?_ _ | refine x'f ?_ _ | refine x'g ?_ | refine x'h ?_ ?_ _ | refine x'i ?_ _ | refine x'j ?_ | refine x'k ?_ _ | refine x'l ?_ _ _ | refine x'm ?_ | assumption | (refine x'n ?_; omega) | omega)))).chg hC7 h3F; obtain ⟨l7, k7, k7', f7⟩ := bx2 B7)
        | (rw [if_pos (by simp [Region.wanted])]; go_wp2_with (go_at_call 155; refine (l4Row_any (n := k) (Hc4.out.toExt (drew_ext _)) (by omega) (by omega) (by omega)).mono ?_; rintro e w6 ⟨v6, F6, xs, rfl, hS6, hF6, hl6, hr6, hc6, hC6⟩; obtain ⟨A6, c6, rfl, _, _⟩ := hS6.form; have HS6 := Lib.hid hS6; have HF6 := Lib.hid hF6; have HL6 := Lib.hid hl6; have Hc6 := Lib.hid hc6; have HC6 := Lib.hid hC6; have B6 := (HB4.out.drew.chg hC6 (by simpa using n3g)); have HB6 := Lib.hid B6; obtain ⟨l6, k6, k6', f6⟩ := bx2 B6; have HSO := Lib.hid ((HS4.out.toExt (drew_ext _)).chg hC6 (fun b hb h => by have := HF4.out b hb; rw [List.mem_singleton.1 h] at this; omega)); have HNN := Lib.hid (nodup_more HN2.out hS6.nodup (HS4.out.lt) hF6); have hz6 := hC6.size; clear hS6 hF6 hl6 hr6 hc6 hC6 B6)))
      all_goals
        have hl1 : (rows ++ [xs]).length = rows.length + 1 := by simp
        have hF7n : ∀ b ∈ F7, W.heap.size ≤ b ∧ b ≠ b3 := fun b hb => by
          rcases hF7 b hb with h | h | h
          · have := HF4.out b h; exact ⟨this.1, by omega⟩
          · have := HF6.out b h; rw [show w4.drew.heap.size = w4.heap.size from rfl] at this; exact ⟨by omega, by omega⟩
          · simp at h; rw [show w4.drew.heap.size = w4.heap.size from rfl] at hz6; exact ⟨by omega, by omega⟩
        have hCw : Chg [g] w w7 := ((HC4.out.drew.trans HC6.out (fun x hx => .inl hx)).trans0 (by refine x'z ?_; repeat (with_reducible (first | exact x'a _ _ | exact x'b _ | exact x'c (by assumption) | refine x'd ?_ (by assumption) | refine x'e ?_ _ | refine x'f ?_ _ | refine x'g ?_ | refine x'h ?_ ?_ _ | refine x'i ?_ _ | refine x'j ?_ | refine x'k ?_ _ | refine x'l ?_ _ _ | refine x'm ?_ | assumption | (refine x'n ?_; omega) | omega)))).trans hC7 (fun x hx => .inr (by have := HF4.out x hx; omega))
        have hR7 : BoxAt w7 w.heap.size #[.int .i64 0, .slice none 0 0] := ((HR4.out.drew.chg HC6.out (by simp; omega)).toExt (by refine x'z ?_; repeat (with_reducible (first | exact x'a _ _ | exact x'b _ | exact x'c (by assumption) | refine x'd ?_ (by assumption) | refine x'e ?_ _ | refine x'f ?_ _ | refine x'g ?_ | refine x'h ?_ ?_ _ | refine x'i ?_ _ | refine x'j ?_ | refine x'k ?_ _ | refine x'l ?_ _ _ | refine x'm ?_ | assumption | (refine x'n ?_; omega) | omega)))).chg hC7 (fun h => by have := HF4.out _ h; omega)
        have hc7 : Cur w0 w7 g := (Hc6.out.toExt (by refine x'z ?_; repeat (with_reducible (first | exact x'a _ _ | exact x'b _ | exact x'c (by assumption) | refine x'd ?_ (by assumption) | refine x'e ?_ _ | refine x'f ?_ _ | refine x'g ?_ | refine x'h ?_ ?_ _ | refine x'i ?_ _ | refine x'j ?_ | refine x'k ?_ _ | refine x'l ?_ _ _ | refine x'm ?_ | assumption | (refine x'n ?_; omega) | omega)))).chg hC7 (fun h => by have := HF4.out _ h; omega) (fun b hb => by have := HF4.out _ hb; omega)
        rw [hl1] at hS7
        have hsC := (Chg.refl [b3] w7).setCell (p := ⟨b3, 1, none⟩) (.inl (by simp)) (.slice A7 (rows.length + 1) c7)
        have HB9 := Lib.hid (B7.setP1 (v' := .slice A7 (rows.length + 1) c7))
        have HR9 := Lib.hid (hR7.chg hsC (by simp; omega))
        have HS9 := Lib.hid (hS7.chg hsC (fun b hb h => (hF7n b hb).2 (List.mem_singleton.1 h)))
        have HC9 := Lib.hid (hCw.trans hsC (fun x hx => .inr (by rw [List.mem_singleton.1 hx]; omega)))
        have Hc9 := Lib.hid (hc7.chg hsC (by simp; omega) (by simp; omega))
        have HN9 := Lib.hid hN7
        have HF9 := Lib.hid (show ∀ b ∈ F7, W.heap.size ≤ b from fun b hb => (hF7n b hb).1)
        have HA9 := Lib.hid (show AnyR ((k : Int), rows ++ [xs]) from ⟨⟨by dsimp only; omega, by dsimp only; omega⟩, by dsimp only; omega, fun y hy => by
          rcases List.mem_append.1 hy with h | h
          · exact HRL.out y h
          · rw [List.mem_singleton.1 h, HL6.out]; omega⟩)
        clear hF7n hCw hR7 hc7 hsC hS7 hC7 hN7 hF7 B7 hl1
        go_upto_region 10 with fail
        clear l7 k7 k7' f7
        obtain ⟨lf1, kf10, kf11, ff1⟩ := bx2 HB9.out
        obtain ⟨lf2, kf20, kf21, ff2⟩ := bx2 HR9.out
        go_wp2_with fail
        refine bodyPost_ret (v := .agg #[.int .i64 ((k : Int)), .slice A7 (rows.length + 1) c7]) (by simp [results, Try.results129, go_sem, *]) rfl ?_
        show AnyRP w0 g w _ _
        have hC9 := (((Chg.refl [w.heap.size] (w7.setCell ⟨b3, 1, none⟩ (.slice A7 (rows.length + 1) c7))).setCell (p := ⟨w.heap.size, 0, none⟩) (.inl (by simp)) (.int .i64 ((k : Int)))).setCell (p := ⟨w.heap.size, 1, none⟩) (.inl (by simp)) (.slice A7 (rows.length + 1) c7))
        exact ⟨_, _, F7, ((k : Int), (rows ++ [xs])), rfl, OD.chg (sRel_mk ⟨_, rfl, HS9.out⟩) hC9 (fun b hb h => by have := HF9.out b hb; rw [List.mem_singleton.1 h] at this; omega), HN9.out, fun b hb => by have := HF9.out b hb; omega, HA9.out, Hc9.out.chg hC9 (by simp; omega) (by simp; omega), HC9.out.trans hC9 (fun x hx => .inr (by rw [List.mem_singleton.1 hx]; omega))⟩
    · have q1 : (x == 1) = false := by simp [e1]
      by_cases e2 : x = 2
      · have q2 : (x == 2) = true := by simp [e2]
        clear e0 e1 e2
        obtain ⟨l4, k4, k4', f4⟩ := bx2 HB4.out
        by_cases h8 : 0 < rows.length ∧ 0 < k
        · obtain ⟨hk0, hkp⟩ := h8
          obtain ⟨g2, cap2, hA, _, _, _⟩ := HS4.out.block (by intro e; rw [e] at hk0; simp at hk0)
          injection hA with hA _ hcp
          subst hA hcp
          obtain ⟨v0, F0, l0, c0, f0, hI, hIF, hIN, hg0, hg0F, _, _⟩ := HS4.out.row HN2.out hk0
          have hr0 := HRK.out rows[0] (List.getElem_mem hk0)
          obtain ⟨g1, cap1, rfl, hg1, _, _⟩ := hI.block (by intro e; rw [e] at hr0; simp at hr0; omega)
          rw [hr0] at c0
          have ng0 : g2 ≠ g := by have := HF4.out g2 hg0F; omega
          have hg4 := Hc4.out.lt
          have hg1F := hIF g1 hg1
          have ng1 : g1 ≠ g := by have := HF4.out g1 hg1F; omega
          have n13 : g1 ≠ b3 := by have := HF4.out g1 hg1F; omega
          have HI := Lib.hid hI
          have HIF := Lib.hid hIF
          clear hI hIF
          go_upto_region 9 with fail
          go_region_law (first
            | (rw [if_pos (by simp [Region.wanted])]; go_wp2_with (go_at_call 183; refine (l1PickInt_any (cs := #[.int .i64 (-1), .int .i64 100, .int .i64 99]) (Hc4.out.toExt (by refine x'z ?_; repeat (with_reducible (first | exact x'a _ _ | exact x'b _ | exact x'c (by assumption) | refine x'd ?_ (by assumption) | refine x'e ?_ _ | refine x'f ?_ _ | refine x'g ?_ | refine x'h ?_ ?_ _ | refine x'i ?_ _ | refine x'j ?_ | refine x'k ?_ _ | refine x'l ?_ _ _ | refine x'm ?_ | assumption | (refine x'n ?_; omega) | omega)))) (by omega) (by omega) (by first | exact BoxAt.new _ _ _ | exact (BoxAt.new _ _ _).drew) (by intro j hj; rcases j with _ | _ | _ | j <;> first | exact ⟨_, rfl⟩ | omega) (by omega)).mono ?_; rintro e w6 ⟨z, j, rfl, hj, hz, hc6, hC6⟩; have hS6 := (HS4.out.toExt (by refine x'z ?_; repeat (with_reducible (first | exact x'a _ _ | exact x'b _ | exact x'c (by assumption) | refine x'd ?_ (by assumption) | refine x'e ?_ _ | refine x'f ?_ _ | refine x'g ?_ | refine x'h ?_ ?_ _ | refine x'i ?_ _ | refine x'j ?_ | refine x'k ?_ _ | refine x'l ?_ _ _ | refine x'm ?_ | assumption | (refine x'n ?_; omega) | omega)))).chg hC6 (fun b hb h => by have := HF4.out b hb; rw [List.mem_singleton.1 h] at this; omega); have hI6 := (HI.out.toExt (by refine x'z ?_; repeat (with_reducible (first | exact x'a _ _ | exact x'b _ | exact x'c (by assumption) | refine x'd ?_ (by assumption) | refine x'e ?_ _ | refine x'f ?_ _ | refine x'g ?_ | refine x'h ?_ ?_ _ | refine x'i ?_ _ | refine x'j ?_ | refine x'k ?_ _ | refine x'l ?_ _ _ | refine x'm ?_ | assumption | (refine x'n ?_; omega) | omega)))).chg hC6 (fun b hb h => by have := HF4.out b (HIF.out b hb); rw [List.mem_singleton.1 h] at this; omega); obtain ⟨⟨u1, i3⟩, i4, i5⟩ := hI6.cell rfl (j := 0) (by rw [hr0]; omega); have HS6 := Lib.hid hS6; have Hc6 := Lib.hid hc6; have HZ6 := Lib.hid hz; have HC6 := Lib.hid (show Chg [g] w w6 from (HC4.out.trans0 (by refine x'z ?_; repeat (with_reducible (first | exact x'a _ _ | exact x'b _ | exact x'c (by assumption) | refine x'd ?_ (by assumption) | refine x'e ?_ _ | refine x'f ?_ _ | refine x'g ?_ | refine x'h ?_ ?_ _ | refine x'i ?_ _ | refine x'j ?_ | refine x'k ?_ _ | refine x'l ?_ _ _ | refine x'm ?_ | assumption | (refine x'n ?_; omega) | omega)))).trans hC6 (fun x hx => .inl hx)); have HB6 := Lib.hid ((HB4.out.toExt (by refine x'z ?_; repeat (with_reducible (first | exact x'a _ _ | exact x'b _ | exact x'c (by assumption) | refine x'd ?_ (by assumption) | refine x'e ?_ _ | refine x'f ?_ _ | refine x'g ?_ | refine x'h ?_ ?_ _ | refine x'i ?_ _ | refine x'j ?_ | refine x'k ?_ _ | refine x'l ?_ _ _ | refine x'm ?_ | assumption | (refine x'n ?_; omega) | omega)))).chg hC6 (by simpa using n3g)); have HR6 := Lib.hid ((HR4.out.toExt (by refine x'z ?_; repeat (with_reducible (first | exact x'a _ _ | exact x'b _ | exact x'c (by assumption) | refine x'd ?_ (by assumption) | refine x'e ?_ _ | refine x'f ?_ _ | refine x'g ?_ | refine x'h ?_ ?_ _ | refine x'i ?_ _ | refine x'j ?_ | refine x'k ?_ _ | refine x'l ?_ _ _ | refine x'm ?_ | assumption | (refine x'n ?_; omega) | omega)))).chg hC6 (by simp; omega)); have hz6 := hC6.size; have e6 : w6.cell? ⟨g2, 0, none⟩ = some (.slice (some ⟨g1, 0, none⟩) k cap1) := (by rw [hC6.cell (b := g2) (o := 0) (by simpa using ng0) (by simp; omega)]; go_simp); obtain ⟨l6, k6, k6', f6⟩ := bx2 HB6.out; have l26 : g2 < w6.heap.size := Nat.lt_of_lt_of_le (by simp; omega) hz6; clear hz hc6 hC6 hS6 hI6)))
          all_goals
            obtain ⟨v0', F0', _, c0', _, hI', hIF', _, _, _, hupd, _⟩ := HS6.out.row HN2.out hk0
            rw [e6] at c0'
            injection c0' with c0'
            subst c0'
            obtain ⟨hI3, hC3⟩ := hI'.set1 hr0 hkp (u := .int .i64 z) (d := z) (fun _ => ⟨rfl, rfl⟩)
            obtain ⟨_, _, e9, hg19, _, _⟩ := hI'.block (by intro e; rw [e] at hr0; simp at hr0; omega)
            injection e9 with e9 e9b e9c
            clear e9b e9c
            injection e9 with e9
            injection e9 with e9 e9d e9e
            clear e9d e9e
            subst e9
            have hS3 := hupd _ _ hI3 (hC3.mono (fun x hx => .inl (by rw [List.mem_singleton.1 hx]; exact hg19)))
            have hg1W := (HF4.out g1 hg1F).1
            have HB9 := Lib.hid (HB6.out.chg hC3 (by simp; omega))
            have HR9 := Lib.hid (HR6.out.chg hC3 (by simp; omega))
            have HS9 := Lib.hid hS3
            have HC9 := Lib.hid (HC6.out.trans hC3 (fun x hx => .inr (by rw [List.mem_singleton.1 hx]; omega)))
            have Hc9 := Lib.hid (Hc6.out.chg hC3 (by simp; omega) (by simp; omega))
            have HN9 := HN2
            have HF9 := Lib.hid (show ∀ b ∈ F2, W.heap.size ≤ b from fun b hb => (HF4.out b hb).1)
            have HA9 := Lib.hid (show AnyR ((k : Int), rows.set 0 (rows[0].set 0 z)) from ⟨⟨by dsimp only; omega, by dsimp only; omega⟩, by dsimp only; rw [List.length_set]; omega, fun y hy => by
              rcases List.mem_or_eq_of_mem_set hy with h | h
              · exact HRL.out y h
              · rw [h, List.length_set]; omega⟩)
            clear hI' hIF' hupd hI3 hC3 hS3 hg19
            go_upto_region 10 with fail
            refine wp_name ?_
            intro WX hWX
            rw [← hWX.out] at HB9 HR9 HS9 HC9 Hc9
            clear l6 k6 k6' f6 i3 i4 i5 hWX
            obtain ⟨lf1, kf10, kf11, ff1⟩ := bx2 HB9.out
            obtain ⟨lf2, kf20, kf21, ff2⟩ := bx2 HR9.out
            go_wp2_with fail
            refine bodyPost_ret (v := .agg #[.int .i64 ((k : Int)), .slice (some ⟨g2, 0, none⟩) rows.length c2]) (by simp [results, Try.results129, go_sem, *]) rfl ?_
            show AnyRP w0 g w _ _
            have hC9 := (((Chg.refl [w.heap.size] WX).setCell (p := ⟨w.heap.size, 0, none⟩) (.inl (by simp)) (.int .i64 ((k : Int)))).setCell (p := ⟨w.heap.size, 1, none⟩) (.inl (by simp)) (.slice (some ⟨g2, 0, none⟩) rows.length c2))
            exact ⟨_, _, F2, ((k : Int), (rows.set 0 (rows[0].set 0 z))), rfl, OD.chg (sRel_mk ⟨_, rfl, HS9.out⟩) hC9 (fun b hb h => by have := HF9.out b hb; rw [List.mem_singleton.1 h] at this; omega), HN9.out, fun b hb => by have := HF9.out b hb; omega, HA9.out, Hc9.out.chg hC9 (by simp; omega) (by simp; omega), HC9.out.trans hC9 (fun x hx => .inr (by rw [List.mem_singleton.1 hx]; omega))⟩
        · by_cases h80 : 0 < rows.length
          · have h81 : ¬ 0 < k := fun h => h8 ⟨h80, h⟩
            clear h8
            go_upto_region 10 with fail
            clear l4 k4 k4' f4
            have HB9 := HB4
            have HR9 := HR4
            have HS9 := HS4
            have HC9 := HC4
            have Hc9 := Hc4
            have HN9 := HN2
            have HF9 := Lib.hid (show ∀ b ∈ F2, W.heap.size ≤ b from fun b hb => (HF4.out b hb).1)
            have HA9 := Lib.hid (show AnyR ((k : Int), rows) from ⟨⟨by dsimp only; omega, by dsimp only; omega⟩, by dsimp only; omega, HRL.out⟩)
            obtain ⟨lf1, kf10, kf11, ff1⟩ := bx2 HB9.out
            obtain ⟨lf2, kf20, kf21, ff2⟩ := bx2 HR9.out
            go_wp2_with fail
            refine bodyPost_ret (v := .agg #[.int .i64 ((k : Int)), .slice A2 rows.length c2]) (by simp [results, Try.results129, go_sem, *]) rfl ?_
            show AnyRP w0 g w _ _
            have hC9 := (((Chg.refl [w.heap.size] w4).setCell (p := ⟨w.heap.size, 0, none⟩) (.inl (by simp)) (.int .i64 ((k : Int)))).setCell (p := ⟨w.heap.size, 1, none⟩) (.inl (by simp)) (.slice A2 rows.length c2))
            exact ⟨_, _, F2, ((k : Int), rows), rfl, OD.chg (sRel_mk ⟨_, rfl, HS9.out⟩) hC9 (fun b hb h => by have := HF9.out b hb; rw [List.mem_singleton.1 h] at this; omega), HN9.out, fun b hb => by have := HF9.out b hb; omega, HA9.out, Hc9.out.chg hC9 (by simp; omega) (by simp; omega), HC9.out.trans hC9 (fun x hx => .inr (by rw [List.mem_singleton.1 hx]; omega))⟩
          · clear h8
            go_upto_region 10 with fail
            clear l4 k4 k4' f4
            have HB9 := HB4
            have HR9 := HR4
            have HS9 := HS4
            have HC9 := HC4
            have Hc9 := Hc4
            have HN9 := HN2
            have HF9 := Lib.hid (show ∀ b ∈ F2, W.heap.size ≤ b from fun b hb => (HF4.out b hb).1)
            have HA9 := Lib.hid (show AnyR ((k : Int), rows) from ⟨⟨by dsimp only; omega, by dsimp only; omega⟩, by dsimp only; omega, HRL.out⟩)
            obtain ⟨lf1, kf10, kf11, ff1⟩ := bx2 HB9.out
            obtain ⟨lf2, kf20, kf21, ff2⟩ := bx2 HR9.out
            go_wp2_with fail
            refine bodyPost_ret (v := .agg #[.int .i64 ((k : Int)), .slice A2 rows.length c2]) (by simp [results, Try.results129, go_sem, *]) rfl ?_
            show AnyRP w0 g w _ _
            have hC9 := (((Chg.refl [w.heap.size] w4).setCell (p := ⟨w.heap.size, 0, none⟩) (.inl (by simp)) (.int .i64 ((k : Int)))).setCell (p := ⟨w.heap.size, 1, none⟩) (.inl (by simp)) (.slice A2 rows.length c2))
            exact ⟨_, _, F2, ((k : Int), rows), rfl, OD.chg (sRel_mk ⟨_, rfl, HS9.out⟩) hC9 (fun b hb h => by have := HF9.out b hb; rw [List.mem_singleton.1 h] at this; omega), HN9.out, fun b hb => by have := HF9.out b hb; omega, HA9.out, Hc9.out.chg hC9 (by simp; omega) (by simp; omega), HC9.out.trans hC9 (fun x hx => .inr (by rw [List.mem_singleton.1 hx]; omega))⟩
      · have q2 : (x == 2) = false := by simp [e2]
        clear e0 e1 e2
        go_upto_region 10 with fail
        have HB9 := HB4
        have HR9 := HR4
        have HS9 := HS4
        have HC9 := HC4
        have Hc9 := Hc4
        have HN9 := HN2
        have HF9 := Lib.hid (show ∀ b ∈ F2, W.heap.size ≤ b from fun b hb => (HF4.out b hb).1)
        have HA9 := Lib.hid (show AnyR ((k : Int), rows) from ⟨⟨by dsimp only; omega, by dsimp only; omega⟩, by dsimp only; omega, HRL.out⟩)
        obtain ⟨lf1, kf10, kf11, ff1⟩ := bx2 HB9.out
        obtain ⟨lf2, kf20, kf21, ff2⟩ := bx2 HR9.out
        go_wp2_with fail
        refine bodyPost_ret (v := .agg #[.int .i64 ((k : Int)), .slice A2 rows.length c2]) (by simp [results, Try.results129, go_sem, *]) rfl ?_
        show AnyRP w0 g w _ _
        have hC9 := (((Chg.refl [w.heap.size] w4).setCell (p := ⟨w.heap.size, 0, none⟩) (.inl (by simp)) (.int .i64 ((k : Int)))).setCell (p := ⟨w.heap.size, 1, none⟩) (.inl (by simp)) (.slice A2 rows.length c2))
        exact ⟨_, _, F2, ((k : Int), rows), rfl, OD.chg (sRel_mk ⟨_, rfl, HS9.out⟩) hC9 (fun b hb h => by have := HF9.out b hb; rw [List.mem_singleton.1 h] at this; omega), HN9.out, fun b hb => by have := HF9.out b hb; omega, HA9.out, Hc9.out.chg hC9 (by simp; omega) (by simp; omega), HC9.out.trans hC9 (fun x hx => .inr (by rw [List.mem_singleton.1 hx]; omega))⟩
theorem anyR_b {r : Rd} (h : AnyR r) : BRel r := by
  have h1 := h.n
  have h2 : (r.2.map List.length).sum ≤ 10 * r.2.length := by
    have : ∀ {l : List (List Int)}, (∀ x ∈ l, x.length ≤ 10) → (l.map List.length).sum ≤ 10 * l.length := by
      intro l
      induction l with
      | nil => simp
      | cons x l ih =>
        intro h
        have a := h x (by simp)
        have b := ih fun y hy => h y (by simp [hy])
        rw [List.map_cons, List.sum_cons, List.length_cons]
        omega
    exact this h.l
  exact ⟨h.a, by omega, by omega⟩
end Go.Proofs.Ytfigcfajkilhiaa

/- Parts of owned rows whose elements have memory: split, put behind another row, one element exchanged for another. No program in it. -/
namespace Go.Proofs.Ytfigcfajkilhiaa
open Go.RowKit

/-- elements that lie at some place, readable -/
def Lie {α : Type} (size : Nat) (E : SE α) (w : World) (A : Option Addr) (es : List α) (G : List Nat) : Prop :=
  ∃ cs, elems size E w cs es G ∧ (∀ u ∈ cs, u.oneCell' = true) ∧ (A = none → es = []) ∧ ∀ ad, A = some ad → ∀ j u, cs[j]? = some u → w.cell? (ad.add j) = some u
theorem elems_one1 {α : Type} {E : SE α} {w : World} {size : Nat} (hE1 : ∀ w c d F, E w c d F → ∀ u ∈ c, u.oneCell' = true) : ∀ {vs : List Value} {ds : List α} {F : List Nat}, elems size E w vs ds F → ∀ u ∈ vs, u.oneCell' = true
  | _, [], _, ⟨h, _⟩, u, hu => by subst h; simp at hu
  | _, _ :: _, _, ⟨c, vs', F1, F2, h1, _, h3, h4, _⟩, u, hu => by
    subst h1
    rcases List.mem_append.1 hu with h | h
    · exact hE1 _ _ _ _ h3 u h
    · exact elems_one1 hE1 h4 u h
section
variable {P : Program} {w w' : World} {α : Type} {E : SE α} {te size bytes : Nat}
/-- an owned row in two parts -/
theorem SV.parts {v : Value} {ds : List α} {F : List Nat} (hE1 : ∀ w c d F, E w c d F → ∀ u ∈ c, u.oneCell' = true) (h : SV te size E w v ds F) (hN : F.Nodup) {k : Nat} (hk : k ≤ ds.length) : ∃ A cap G1 G2, v = .slice A ds.length cap ∧ ds.length ≤ cap ∧ Hid (cap ≤ maxLen) ∧ (A = none → ds = []) ∧
    (∀ b o, A = some ⟨b, o, none⟩ → o = 0) ∧ (∀ ad, A = some ad → ∃ b, ad = ⟨b, 0, none⟩) ∧ (∀ b ∈ G1, b ∈ F) ∧ (∀ b ∈ G2, b ∈ F) ∧ G1.Nodup ∧ G2.Nodup ∧ (∀ b ∈ G1, b ∉ G2) ∧
    Lie size E w A (ds.take k) G1 ∧ (∀ A', (∀ b, A = some ⟨b, 0, none⟩ → A' = some ⟨b, k * size, none⟩) → (A = none → A' = none) → Lie size E w A' (ds.drop k) G2) := by
  obtain ⟨A, cap, rfl, hc1, hc2⟩ := h.form
  obtain ⟨vs, F2, h1, h2, rfl⟩ := h
  have h2' := h2
  rw [← List.take_append_drop k ds] at h2'
  obtain ⟨vs1, vs2, G1, G2, e1, e2, k1, k2⟩ := elems_split h2'
  have hl1 := elems_length k1
  have hl2 := elems_length k2
  rw [List.length_take, Nat.min_eq_left hk] at hl1
  have hNd := (List.nodup_append.1 hN).2.1
  rw [e2] at hNd
  obtain ⟨n1, n2, n3⟩ := List.nodup_append.1 hNd
  have hA : ∀ ad, A = some ad → ∃ b, ad = ⟨b, 0, none⟩ := fun ad e => by
    subst e
    rcases h1.2 with ⟨h9, _⟩ | ⟨g, cap', cur, h9, _⟩
    · injection h9 with h9; cases h9
    · injection h9 with h9; injection h9 with h9; exact ⟨g, h9⟩
  have hA0 : A = none → ds = [] := fun e => by
    subst e
    rcases h1.2 with ⟨_, h9⟩ | ⟨g, cap', cur, h9, _⟩
    · exact List.eq_nil_of_length_eq_zero h9
    · injection h9 with h9; cases h9
  have hcell : ∀ b, A = some ⟨b, 0, none⟩ → ∀ j u, vs[j]? = some u → w.cell? ⟨b, j, none⟩ = some u := fun b e j u hj => by
    subst e
    have hlt := (List.getElem?_eq_some_iff.1 hj).1
    have hvl := elems_length h2
    rw [h1.cellAt j (by omega)]
    exact hj
  have hadd : ∀ b o j, (⟨b, o, none⟩ : Addr).add j = ⟨b, o + j, none⟩ := fun b o j => by
    unfold Addr.add
    split
    · rename_i h; subst h; rfl
    · rfl
  refine ⟨A, cap, G1, G2, rfl, hc1, hc2, hA0, fun b o e => ?_, hA, fun b hb => by rw [e2]; simp [hb], fun b hb => by rw [e2]; simp [hb], n1, n2, fun b hb hb2 => n3 b hb b hb2 rfl, ?_, fun A' hA1 hA2 => ?_⟩
  · obtain ⟨b', e'⟩ := hA _ e
    injection e'
  · refine ⟨vs1, k1, elems_one1 hE1 k1, fun e => by rw [hA0 e]; simp, fun ad e j u hj => ?_⟩
    obtain ⟨b, rfl⟩ := hA ad e
    rw [hadd, Nat.zero_add]
    exact hcell b e j u (by rw [e1, List.getElem?_append_left (List.getElem?_eq_some_iff.1 hj).1]; exact hj)
  · refine ⟨vs2, k2, elems_one1 hE1 k2, fun e => ?_, fun ad e j u hj => ?_⟩
    · cases hq : A with
      | none => rw [hA0 hq]; simp
      | some ad =>
        obtain ⟨b, rfl⟩ := hA ad hq
        rw [hA1 b hq] at e; cases e
    · cases hq : A with
      | none => rw [hA2 hq] at e; cases e
      | some ad' =>
        obtain ⟨b, rfl⟩ := hA ad' hq
        rw [hA1 b hq] at e
        injection e with e
        subst e
        rw [hadd]
        refine hcell b hq _ u ?_
        rw [e1, List.getElem?_append_right (by omega), hl1, Nat.add_sub_cancel_left]
        exact hj
variable [SMono E]
theorem Lie.keep {A : Option Addr} {es : List α} {G : List Nat} (h : Lie size E w A es G) (hG : ∀ b ∈ G, w'.heap[b]? = w.heap[b]?) (hA : ∀ ad, A = some ad → w'.heap[ad.block]? = w.heap[ad.block]?) : Lie size E w' A es G := by
  obtain ⟨cs, h1, h2, h3, h4⟩ := h
  refine ⟨cs, elems_keep h1 hG, h2, h3, fun ad e j u hj => ?_⟩
  have hb : (ad.add j).block = ad.block := by unfold Addr.add; split <;> rfl
  have h9 := hA ad e
  rw [← hb] at h9
  exact (World.cell?_of_block h9).trans (h4 ad e j u hj)
/-- append of elements that lie somewhere, onto an owned row -/
theorem wp_appP {o : Oper} {a : Act} {K : Act → World → Prop} {Q : Exit → Act → World → Prop} (s x : Operand) (t : TypeId)
    (ho : o.op = .call { callee := .builtin .append, args := #[s, x], argTypes := #[t, t] })
    {z : Value} (hT : SlT P t te size bytes z) {v : Value} {ds : List α} {F : List Nat} (hs : a.eval s = v) (hS : SV te size E w v ds F) (hN : F.Nodup)
    {A : Option Addr} {m c : Nat} {es : List α} {G : List Nat} (hx : a.eval x = .slice A m c) (hm : m = es.length) (hL : Lie size E w A es G) (hN2 : (F ++ G).Nodup) (hlen : ds.length + m ≤ 2000000000) (hby : bytes ≤ 60000)
    (h : ∀ v' w' F', SV te size E w' v' (ds ++ es) F' → Chg F w w' → F'.Nodup → (∀ b ∈ F', b ∈ F ∨ b ∈ G ∨ w.heap.size ≤ b) → K (a.put o.dst v') w') : o.wp P a w K Q := by
  obtain ⟨cs, k1, k2, k3, k4⟩ := hL
  cases A with
  | some ad => exact wp_appS _ s x t ho hT hs hS hN hx (k4 ad rfl) k2 hm k1 hN2 hlen hby h
  | none =>
    have e0 := k3 rfl
    subst e0
    subst hm
    obtain ⟨ht, hi, _, _⟩ := hT
    obtain ⟨i, hi, _, _, _⟩ := info_parts hi
    have hS' := hS
    obtain ⟨vs, F2, ho', _, _⟩ := hS'
    have hrun := run_append_none_c (P := P) (w := w) 0 t o.type te i size c ht hi v ds.length vs ho'
    unfold Oper.wp execOp
    simp only [ho, resolve, invoke, builtin, Sem.run_bind, Sem.run_pure, Result.andThen_ok, List.map_toArray, List.map_cons, List.map_nil, hs, hx, List.length_nil, hrun]
    exact h v w F (by simpa using hS) (Chg.refl F w) hN fun b hb => .inl hb
theorem step_appP {ops : Array Oper} {o : Oper} {a : Act} {K : Act → World → Prop} {Q : Exit → Act → World → Prop} {X : Prop} (hgd : o.guard = none) (s x : Operand) (t : TypeId)
    (ho : o.op = .call { callee := .builtin .append, args := #[s, x], argTypes := #[t, t] })
    {z : Value} (hT : SlT P t te size bytes z) {v : Value} {ds : List α} {F : List Nat} (hs : a.eval s = v) (hS : SV te size E w v ds F) (hN : F.Nodup)
    {A : Option Addr} {m c : Nat} {es : List α} {G : List Nat} (hx : a.eval x = .slice A m c) (hm : m = es.length) (hL : Lie size E w A es G) (hN2 : (F ++ G).Nodup) (hlen : ds.length + m ≤ 2000000000) (hby : bytes ≤ 60000)
    (h : ∀ v' w' F', SV te size E w' v' (ds ++ es) F' → Chg F w w' → F'.Nodup → (∀ b ∈ F', b ∈ F ∨ b ∈ G ∨ w.heap.size ≤ b) → K (a.put o.dst v') w') :
    if Region.wanted o (yielded ops a.tmps) = true then Oper.wp P o a w K Q else X := by
  have hwt : Region.wanted o (yielded ops a.tmps) = true := by simp [Region.wanted, hgd]
  rw [if_pos hwt]
  exact wp_appP s x t ho hT hs hS hN hx hm hL hN2 hlen hby h
end
/-- one element of three cells exchanged for another, its memory for that of the other -/
theorem SV.swap3 {α : Type} {te : Nat} {w : World} {E : SE α} [SMono E] {ds : List α} {g cap n : Nat} {F G : List Nat} (h : SV te 3 E w (.slice (some ⟨g, 0, none⟩) n cap) ds F) (hn : ds.length = n) (hN : (F ++ G).Nodup) {k : Nat} (hk : k < ds.length) {u v x : Value} {d : α} (hE : E w [u, v, x] d G) :
    ∃ F', SV te 3 E (((w.setCell ⟨g, k * 3, none⟩ u).setCell ⟨g, k * 3 + 1, none⟩ v).setCell ⟨g, k * 3 + 2, none⟩ x) (.slice (some ⟨g, 0, none⟩) n cap) (ds.set k d) F' ∧ Chg [g] w (((w.setCell ⟨g, k * 3, none⟩ u).setCell ⟨g, k * 3 + 1, none⟩ v).setCell ⟨g, k * 3 + 2, none⟩ x) ∧ F'.Nodup ∧ (∀ b ∈ F', b ∈ F ∨ b ∈ G) ∧ g ∈ F := by
  subst hn
  obtain ⟨vs, F2, h1, h2, h3⟩ := h
  have hfp : fpOf (.slice (some ⟨g, 0, none⟩) ds.length cap) = [g] := rfl
  rw [hfp] at h3
  obtain ⟨c, vs1, vs2, G1, G2, Fk, e1, e2, e3, e4, e5, e6, e7⟩ := elems_upd (c' := []) (d' := d) (Fk := []) (w' := w) h2 hk
  subst h3 e4
  have hN' := hN
  rw [List.nodup_append] at hN'
  obtain ⟨m1, m2, m3⟩ := hN'
  rw [List.singleton_append, List.nodup_cons, List.nodup_append, List.nodup_append] at m1
  obtain ⟨n1, n2, ⟨n3, n4, n5⟩, n6⟩ := m1
  have hlen := elems_length h2
  have hm : (k + 1) * 3 ≤ ds.length * 3 := Nat.mul_le_mul_right _ hk
  obtain ⟨s1, t1⟩ := h1.stored (k * 3) u
  obtain ⟨s2, t2⟩ := s1.stored (k * 3 + 1) v
  obtain ⟨s3, t3⟩ := s2.stored (k * 3 + 2) x
  have hC : Chg [g] w (((w.setCell ⟨g, k * 3, none⟩ u).setCell ⟨g, k * 3 + 1, none⟩ v).setCell ⟨g, k * 3 + 2, none⟩ x) := (((Chg.refl [g] w).setCell (.inl (by simp)) u).setCell (.inl (by simp)) v).setCell (.inl (by simp)) x
  have hl1 : vs1.length = k * 3 := e2
  have hvs : ((vs.set (k * 3) u).set (k * 3 + 1) v).set (k * 3 + 2) x = vs1 ++ ([u, v, x] ++ vs2) := by
    match c, e3 with
    | [c0, c1, c2], _ =>
      rw [e1, List.set_append_right _ _ (by omega), List.set_append_right _ _ (by omega), List.set_append_right _ _ (by omega), hl1, Nat.sub_self, show k * 3 + 1 - k * 3 = 1 by omega, show k * 3 + 2 - k * 3 = 2 by omega]
      rfl
  rw [hvs] at s3
  have hkp : ∀ b, b ∈ G1 ++ (Fk ++ G2) ∨ b ∈ G → (((w.setCell ⟨g, k * 3, none⟩ u).setCell ⟨g, k * 3 + 1, none⟩ v).setCell ⟨g, k * 3 + 2, none⟩ x).heap[b]? = w.heap[b]? := fun b hb => by
    refine hC.block b ?_ ?_
    · rcases hb with hb | hb
      · exact elems_lt h2 b hb
      · exact SMono.lt hE b hb
    · intro e
      rw [List.mem_singleton.1 e] at hb
      rcases hb with hb | hb
      · exact n1 hb
      · exact m3 g (by simp) g hb rfl
  refine ⟨[g] ++ (G1 ++ (G ++ G2)), ⟨vs1 ++ ([u, v, x] ++ vs2), G1 ++ (G ++ G2), by rw [List.length_set]; exact s3, ?_, by rw [hfp]⟩, hC, ?_, fun b hb => ?_, by simp⟩
  · rw [set_split hk]
    exact elems_join (elems_keep e6 fun b hb => hkp b (.inl (by simp [hb]))) rfl (SMono.keep hE fun b hb => hkp b (.inr hb)) (elems_keep e7 fun b hb => hkp b (.inl (by simp [hb])))
  · rw [List.singleton_append, List.nodup_cons, List.nodup_append, List.nodup_append]
    refine ⟨?_, n2, ⟨m2, n4, ?_⟩, ?_⟩
    · intro hb
      simp only [List.mem_append] at hb
      rcases hb with hb | hb | hb
      · exact n1 (by simp [hb])
      · exact m3 g (by simp) g hb rfl
      · exact n1 (by simp [hb])
    · intro a ha b hb e
      exact m3 b (by simp [hb]) a ha e.symm
    · intro a ha b hb e
      rcases List.mem_append.1 hb with h | h
      · exact m3 a (by simp [ha]) b h e
      · exact n6 a ha b (by simp [h]) e
  · simp only [List.singleton_append, List.mem_cons, List.mem_append] at hb ⊢
    rcases hb with hb | hb | hb | hb
    · exact .inl (.inl hb)
    · exact .inl (.inr (.inl hb))
    · exact .inr hb
    · exact .inl (.inr (.inr (.inr hb)))
end Go.Proofs.Ytfigcfajkilhiaa

/- Owned rows: one cell of an element written so that the element has other memory; elements whose memory is only kept. No program in it. -/
namespace Go.Proofs.Ytfigcfajkilhiaa
open Go.RowKit

section
variable {α : Type} {te size : Nat} {E : SE α} {w w' : World} {v : Value} {ds : List α} {F G : List Nat}
theorem SV.setG [SMono E] (h : SV te size E w v ds F) (hN : (F ++ G).Nodup) {k : Nat} (hk : k < ds.length) {g : Nat} (hv : ∃ n cap, v = .slice (some ⟨g, 0, none⟩) n cap) {j : Nat} {u : Value} {d' : α} (hj : j < size)
    (hE : ∀ c Fk, c.length = size → E w c ds[k] Fk → (∀ i (hi : i < c.length), w.cell? ⟨g, k * size + i, none⟩ = some c[i]) → E w (c.set j u) d' G) : ∃ F', SV te size E (w.setCell ⟨g, k * size + j, none⟩ u) v (ds.set k d') F' ∧ F'.Nodup ∧ ∀ b ∈ F', b ∈ F ∨ b ∈ G := by
  obtain ⟨n, cap, rfl⟩ := hv
  obtain ⟨_, _, e0, _, _⟩ := h.form
  injection e0 with _ e0 _
  subst e0
  obtain ⟨vs, F2, h1, h2, h3⟩ := h
  obtain ⟨c, vs1, vs2, G1, G2, Fk, e1, e2, e3, e4, e5, e6, e7⟩ := elems_upd (c' := []) (d' := ds[k]) (Fk := []) (w' := w) h2 hk
  have hfp : fpOf (.slice (some ⟨g, 0, none⟩) ds.length cap) = [g] := rfl
  rw [hfp] at h3
  subst h3 e4
  have hN' := hN
  rw [List.nodup_append] at hN'
  obtain ⟨m1, m2, m3⟩ := hN'
  rw [List.singleton_append, List.nodup_cons, List.nodup_append, List.nodup_append] at m1
  obtain ⟨n1, n2, ⟨n3, n4, n5⟩, n6⟩ := m1
  have hm : (k + 1) * size ≤ ds.length * size := Nat.mul_le_mul_right _ hk
  rw [Nat.add_mul, Nat.one_mul] at hm
  have hlen := elems_length h2
  have hE' := hE c Fk e3 (e5 hk) fun i hi => by
    rw [h1.cellAt _ (by omega), e1, List.getElem?_append_right (by omega), e2, show k * size + i - k * size = i by omega, List.getElem?_append_left hi, List.getElem?_eq_getElem hi]
  obtain ⟨h4, h5⟩ := h1.stored (k * size + j) u
  have hC : Chg [g] w (w.setCell ⟨g, k * size + j, none⟩ u) := Chg.ofGrown h5 fun k hk => by simpa using hk.symm
  have hkp : ∀ b, b ∈ G1 ++ (Fk ++ G2) ∨ b ∈ G → (w.setCell ⟨g, k * size + j, none⟩ u).heap[b]? = w.heap[b]? := fun b hb => by
    refine hC.block b ?_ ?_
    · rcases hb with hb | hb
      · exact elems_lt h2 b hb
      · exact SMono.lt hE' b hb
    · intro e
      rw [List.mem_singleton.1 e] at hb
      rcases hb with hb | hb
      · exact n1 hb
      · exact m3 g (by simp) g hb rfl
  refine ⟨[g] ++ (G1 ++ (G ++ G2)), ⟨vs.set (k * size + j) u, G1 ++ (G ++ G2), by rw [List.length_set]; exact h4, ?_, by rw [hfp]⟩, ?_, fun b hb => ?_⟩
  · have ev : vs.set (k * size + j) u = vs1 ++ (c.set j u ++ vs2) := by
      rw [e1, List.set_append_right _ _ (by omega), e2, show k * size + j - k * size = j by omega, List.set_append_left _ _ (by omega)]
    rw [ev, set_split hk]
    exact elems_join (elems_keep e6 fun b hb => hkp b (.inl (by simp [hb]))) (by rw [List.length_set]; exact e3) (SMono.keep hE' fun b hb => hkp b (.inr hb)) (elems_keep e7 fun b hb => hkp b (.inl (by simp [hb])))
  · rw [List.singleton_append, List.nodup_cons, List.nodup_append, List.nodup_append]
    refine ⟨?_, n2, ⟨m2, n4, ?_⟩, ?_⟩
    · intro hb
      simp only [List.mem_append] at hb
      rcases hb with hb | hb | hb
      · exact n1 (by simp [hb])
      · exact m3 g (by simp) g hb rfl
      · exact n1 (by simp [hb])
    · intro a ha b hb e
      exact m3 b (by simp [hb]) a ha e.symm
    · intro a ha b hb e
      rcases List.mem_append.1 hb with h | h
      · exact m3 a (by simp [ha]) b h e
      · exact n6 a ha b (by simp [h]) e
  · simp only [List.singleton_append, List.mem_cons, List.mem_append] at hb ⊢
    rcases hb with hb | hb | hb | hb
    · exact .inl (.inl hb)
    · exact .inl (.inr (.inl hb))
    · exact .inr hb
    · exact .inl (.inr (.inr (.inr hb)))
end
/-- an element that was owned in an older world by blocks of G: it owns nothing any more -/
def sKept {α : Type} (S : SE α) (W : World) (G : List Nat) : SE α := fun _ c d F => F = [] ∧ ∃ Fk, S W c d Fk ∧ ∀ b ∈ Fk, b ∈ G
instance {α : Type} (S : SE α) (W : World) (G : List Nat) : SMono (sKept S W G) := ⟨fun h b hb => by rw [h.1] at hb; simp at hb, fun h _ => h⟩
instance {α : Type} (S : SE α) (W : World) (G : List Nat) : SPlain (sKept S W G) := ⟨fun h => h.1⟩
theorem sKept_v {α : Type} {S : SE α} [SMono S] {V : VE α} {W w : World} {G H : List Nat} (hV : ∀ w c d F, S w c d F → V w c d) (hC : Chg H W w) (hG : ∀ b ∈ G, b ∉ H) (c : List Value) (d : α) (F : List Nat) (h : sKept S W G w c d F) : V w c d := by
  obtain ⟨_, Fk, h1, h2⟩ := h
  exact hV _ _ _ Fk (SMono.keep h1 fun b hb => hC.block b (SMono.lt h1 b hb) (hG b (h2 b hb)))
theorem elems_kept {α : Type} {S : SE α} {w W : World} {size : Nat} {G : List Nat} : ∀ {vs : List Value} {ds : List α} {F : List Nat}, elems size S W vs ds F → (∀ b ∈ F, b ∈ G) → elems size (sKept S W G) w vs ds []
  | _, [], _, h, _ => ⟨h.1, rfl⟩
  | _, d :: ds, _, ⟨c, vs', F1, F2, h1, h2, h3, h4, h5⟩, hG => by
    subst h5
    exact ⟨c, vs', [], [], h1, h2, ⟨rfl, F1, h3, fun b hb => hG b (by simp [hb])⟩, elems_kept h4 fun b hb => hG b (by simp [hb]), rfl⟩
theorem SV.kept {α : Type} {te size : Nat} {S : SE α} {W : World} {v : Value} {ds : List α} {F : List Nat} (h : SV te size S W v ds F) (hN : F.Nodup) : ∃ G, SV te size (sKept S W G) W v ds (fpOf v) ∧ (∀ b ∈ G, b ∈ F) ∧ (∀ b ∈ fpOf v, b ∈ F ∧ b ∉ G) ∧
    ∀ k (hk : k < ds.length), ∃ g n cap c, v = .slice (some ⟨g, 0, none⟩) n cap ∧ c.length = size ∧ (∀ i (hi : i < c.length), W.cell? ⟨g, k * size + i, none⟩ = some c[i]) ∧ ∀ w, sKept S W G w c ds[k] [] := by
  have h' := h
  obtain ⟨vs, F2, h1, h2, rfl⟩ := h
  refine ⟨F2, ⟨vs, [], h1, elems_kept h2 fun b hb => hb, by simp⟩, fun b hb => by simp [hb], fun b hb => ⟨by simp [hb], fun hG => (List.nodup_append.1 hN).2.2 b hb b hG rfl⟩, fun k hk => ?_⟩
  obtain ⟨g, cap, hv, _, _, _⟩ := h'.block (by intro e; subst e; simp at hk)
  obtain ⟨c, vs1, vs2, G1, G2, Fk, e1, e2, e3, e4, e5, e6, e7⟩ := elems_upd (c' := []) (d' := ds[k]) (Fk := []) (w' := W) h2 hk
  have hm : (k + 1) * size ≤ ds.length * size := Nat.mul_le_mul_right _ hk
  rw [Nat.add_mul, Nat.one_mul] at hm
  subst hv
  exact ⟨g, _, cap, c, rfl, e3, fun i hi => by
    rw [h1.cellAt _ (by omega), e1, List.getElem?_append_right (by omega), e2, show k * size + i - k * size = i by omega, List.getElem?_append_left hi, List.getElem?_eq_getElem hi], fun w => ⟨rfl, Fk, e5 hk, fun b hb => by rw [e4]; simp [hb]⟩⟩
end Go.Proofs.Ytfigcfajkilhiaa

/- Cells and blocks carried from a world of old to one that extends it. No program in it. -/
namespace Go.Proofs.Ytfigcfajkilhiaa
open Go.RowKit

theorem cellW {w wr : World} {b o : Nat} {u : Value} (hy : ∃ y, wr = ext w y) (hb : b < w.heap.size) (h : w.cell? ⟨b, o, none⟩ = some u) : wr.cell? ⟨b, o, none⟩ = some u := by
  obtain ⟨y, rfl⟩ := hy
  rw [cell_ext hb]; exact h
theorem ltW {w wr : World} {b : Nat} (hy : ∃ y, wr = ext w y) (hb : b < w.heap.size) : b < wr.heap.size := Nat.lt_of_lt_of_le hb (size_of_ext hy)
end Go.Proofs.Ytfigcfajkilhiaa

/- The laws' helpers on lists of atoms: the size, a copy, equality, marks written. -/
namespace Go.Proofs.Ytfigcfajkilhiaa
open Go.RowKit

abbrev At := ByteArray × List Int
theorem conv1m (w : World) (b o cap : Nat) (n : Int) (h : w.cell? ⟨b, o, none⟩ = some (.int .u8 n)) : (convert 62 9 (.slice (some ⟨b, o, none⟩) 1 cap)).run Try.prog w = .ok (.string (bs [UInt8.ofNat n.toNat])) w :=
  run_convert_bytes_arg w _ _ Try.underlying62 Try.underlying5 b o 1 cap [n] rfl (fun i hi => by
    have : i = 0 := by omega
    subst this
    simpa using h) _ Try.underlying9
def mtx (k : Int) : ByteArray := if k ≤ 0 then ⟨#[109, 48]⟩ else bs (109 :: dec k.toNat)
set_option maxHeartbeats 1000000 in
theorem markText_any {k : Int} {w : World} (hk : k ≤ 100000000000) :
    Calls Try.prog 174 #[.int .i64 k] w fun e w' => e = .returned (.string (mtx k)) ∧ ∃ y, w' = ext w y := by
  by_cases h0 : k ≤ 0
  · rw [show mtx k = ⟨#[109, 48]⟩ by unfold mtx; rw [if_pos h0]]
    go_enter Try.func174, Try.ntmps174
    go_wp2
    go_ret
    exact ⟨rfl, refl_ext w⟩
  · rw [show mtx k = bs (109 :: dec k.toNat) by unfold mtx; rw [if_neg h0]]
    have kc := conv1m
    obtain ⟨D, hD⟩ : ∃ D, dec k.toNat = D := ⟨_, rfl⟩
    have hl : D.length ≤ 20 := by rw [← hD]; have := dec_length 19 k.toNat (by omega) (by omega); omega
    rw [hD]
    go_enter Try.func174, Try.ntmps174
    go_wp2
    go_loopw [0, 3] (fun m v wr => ∃ (n : Nat) (acc : List UInt8), m = .int .i64 n ∧ v = .string (bs acc) ∧ n ≤ 100000000000 ∧ (if n = 0 then acc else dec n ++ acc) = D ∧ acc.length ≤ 20 ∧ ∃ y, wr = ext w y) (fun m _ _ => (intOf m).toNat)
    case atStart => exact ⟨k.toNat, [], by congr 1; omega, rfl, by omega, by rw [if_neg (by omega)]; simpa using hD, by simp, refl_ext w⟩
    case round =>
      obtain ⟨n, acc, rfl, rfl, hn, hj, ha, hy⟩ := hrel
      have Hj := Lib.hid hj
      clear hj hD
      by_cases hp : 0 < n
      · have hp' : (0 : Int) < n := by omega
        have hp2 : (0 : Int) ≤ n := by omega
        have hsz : (bs acc).size ≤ 20 := by rw [bs_size]; exact ha
        have hs1 : (bs [48 + UInt8.ofNat (n % 10)]).size = 1 := bs_size _
        have HA := Lib.hid (bs_append [48 + UInt8.ofNat (n % 10)] acc)
        have hjo := Hj.out
        rw [if_neg (by omega : ¬ n = 0)] at hjo
        have hd : UInt8.ofNat (48 + n % 10) = 48 + UInt8.ofNat (n % 10) := UInt8.ofNat_add _ _
        have HE := Lib.hid (show (if n / 10 = 0 then (48 + UInt8.ofNat (n % 10)) :: acc else dec (n / 10) ++ ((48 + UInt8.ofNat (n % 10)) :: acc)) = D by
          rw [← hjo, ← hd]
          by_cases h10 : n < 10
          · rw [if_pos (by omega), dec_small h10, show n % 10 = n by omega]
            rfl
          · rw [if_neg (by omega), dec_big h10]
            simp)
        have hal : acc.length + 1 ≤ D.length := by
          rw [← hjo, List.length_append]
          have := List.length_pos_iff.2 (dec_ne n)
          omega
        clear hjo hd
        go_wp2
        exact ⟨⟨n / 10, (48 + UInt8.ofNat (n % 10)) :: acc, by congr 1, by rw [HA.out]; rfl, by omega, HE.out, by simp only [List.length_cons]; omega, (by refine x'z ?_; repeat (with_reducible (first | exact x'a _ _ | exact x'b _ | exact x'c (by assumption) | refine x'd ?_ (by assumption) | refine x'e ?_ _ | refine x'f ?_ _ | refine x'g ?_ | refine x'h ?_ ?_ _ | refine x'i ?_ _ | refine x'j ?_ | refine x'k ?_ _ | refine x'l ?_ _ _ | refine x'm ?_ | assumption | (refine x'n ?_; omega) | omega)))⟩, by simp [intOf]; omega⟩
      · have e0 : n = 0 := by omega
        subst e0
        have hsz : (bs acc).size ≤ 20 := by rw [bs_size]; exact ha
        have hs1 : (ByteArray.mk #[109]).size = 1 := rfl
        have e := Hj.out
        rw [if_pos rfl] at e
        have He := Lib.hid e
        clear e
        go_wp2
        go_ret
        exact ⟨by rw [← He.out, show (109 :: acc) = [109] ++ acc from rfl, ← bs_append]; rfl, hy⟩
abbrev vAt : VE At := vP 1 vS (vSl 1 vI)
abbrev sAt : SE At := sP 1 sS (sSl 3 1 sI)
abbrev vAts : VE (List At) := vSl 2 vAt
abbrev sAts : SE (List At) := sSl 81 2 sAt
theorem sAt_v {w : World} (c : List Value) (d : At) (F : List Nat) (h : sAt w c d F) : vAt w c d := sP_v sS_v (sSl_v sI_v) c d F h
theorem sAts_v {w : World} (c : List Value) (d : List At) (F : List Nat) (h : sAts w c d F) : vAts w c d := sSl_v sAt_v c d F h
def QAt (d : At) : Prop := d.1.size ≤ maxLen ∧ d.2.length ≤ maxLen
def QAts (d : List At) : Prop := d.length ≤ maxLen ∧ ∀ x ∈ d, QAt x
def cAt (x : At) : Nat := x.1.size + x.2.length
def BAts (d : List At) : Prop := d.length ≤ 1048576 ∧ (d.map cAt).sum ≤ 1048576
theorem BAts.each {d : List At} (h : BAts d) : ∀ x ∈ d, x.1.size ≤ 1048576 ∧ x.2.length ≤ 1048576 := fun x hx => by
  have h1 := sum_each (c := cAt) hx
  have h2 := h.2
  unfold cAt at h1 h2
  omega
def szAt (l : Int) (x : At) : Int := szA l x.1.size x.2.length
theorem szAt_sub (l : Int) (x : At) (h : 0 ≤ szAt l x) : szAt l x ≤ l - cAt x := by
  unfold szAt szA at h ⊢
  split at h
  · omega
  · rename_i h1
    rw [if_neg h1]
    have := szL_sub h
    unfold cAt
    omega
theorem szAts_le {left : Int} {xs : List At} (h : 0 ≤ szN szAt left xs) : szN szAt left xs ≤ left := szN_le (fun l x h => by have := szAt_sub l x h; omega) h
theorem szAts_small {left : Int} {xs : List At} (h : 0 ≤ szN szAt left xs) (hl : left ≤ 1048576) : BAts xs := by
  have := szN_small (c := cAt) szAt_sub h
  exact ⟨by omega, by omega⟩
theorem RV.atA {w : World} {A : Option Addr} {d : List At} {k : Nat} (h : RV 2 vAt w A d) (hk : k < d.length) : ∃ b o A' c', A = some ⟨b, o, none⟩ ∧ b < w.heap.size ∧ w.cell? ⟨b, o + k * 2, none⟩ = some (.string d[k].1) ∧ w.cell? ⟨b, o + k * 2 + 1, none⟩ = some (.slice A' d[k].2.length c') ∧ RI w A' d[k].2 := by
  obtain ⟨b, o, h1, h2, c, hc, hr, c0, c1, e, _, hs, A', c', rfl, hv⟩ := h.get hk
  simp only [vS] at hs
  subst hs e
  exact ⟨b, o, A', _, h1, h2, by simpa using hr 0 (by simp), by simpa using hr 1 (by simp), hv⟩
theorem vAts_get {w : World} {A : Option Addr} {n c : Nat} {d : List At} (h : vAts w [.slice A n c] d) : n = d.length ∧ RV 2 vAt w A d := by
  obtain ⟨A', c', e, h⟩ := h
  injection e with e
  injection e with e1 e2 e3
  subst e1
  exact ⟨e2, h⟩
set_option maxHeartbeats 1000000 in
theorem szAtomS_d {A : Option Addr} {c : Nat} {d : List At} {left : Int} {w : World} (hq : QAts d) (h : vAts w [.slice A d.length c] d) (h1 : 0 ≤ left) (h2 : left ≤ 1000000000) :
    Calls Try.prog 100 #[.slice A d.length c, .int .i64 left] w fun e w' => e = .returned (.int .i64 (szN szAt left d)) ∧ ∃ y, w' = ext w y := by
  have hn := le_maxLen hq.1
  have Hl := Lib.hid hq.2
  have h := (vAts_get h).2
  clear hq
  by_cases h0 : left - d.length < 0
  · rw [show szN szAt left d = -1 by unfold szN; rw [if_pos h0]]
    go_enter Try.func100, Try.ntmps100
    go_wp2
    go_ret
    exact ⟨rfl, refl_ext w⟩
  · rw [show szN szAt left d = szG szAt (left - d.length) d by unfold szN; rw [if_neg h0]]
    go_enter Try.func100, Try.ntmps100
    go_wp2
    go_loopw [1, 5] (fun m i wr => ∃ (k : Nat) (l : Int), m = .int .i64 l ∧ i = .int .i64 k ∧ k ≤ d.length ∧ 0 ≤ l ∧ l ≤ left ∧ szG szAt l (d.drop k) = szG szAt (left - d.length) d ∧ ∃ y, wr = ext w y) (fun _ i _ => d.length - (intOf i).toNat)
    case atStart => exact ⟨0, left - d.length, rfl, rfl, by omega, by omega, by omega, by simp, refl_ext w⟩
    case round =>
      obtain ⟨k, l, rfl, rfl, hk, hl0, hl1, hj, hy⟩ := hrel
      have Hj := Lib.hid hj
      clear hj
      by_cases hlt : k < d.length
      · obtain ⟨b, o, A', c', rfl, hb, hc, hd, hv⟩ := (h.toExt hy).atA hlt
        have hle := Hl.out d[k] (List.getElem_mem hlt)
        have hle1 := le_maxLen hle.1
        have hle2 := le_maxLen hle.2
        clear hle
        by_cases hs : 0 ≤ szAt l d[k]
        · have e := Hj.out
          rw [szG_step hlt hs] at e
          have he := szAt_sub l d[k] hs
          obtain ⟨r, hr⟩ : ∃ r, szAt l d[k] = r := ⟨_, rfl⟩
          rw [hr] at e hs he
          have He := Lib.hid e
          have Hr := Lib.hid hr
          clear e hr
          go_wp2_with (go_at_call 175; refine (szAtom_any hle1 hle2 (by omega) (by omega)).mono ?_; rintro e w' ⟨rfl, hx9⟩; rw [show szA l d[k].1.size d[k].2.length = r from Hr.out])
          exact ⟨⟨k + 1, r, rfl, by go_num, by omega, by omega, by omega, He.out, (by refine x'z ?_; repeat (with_reducible (first | exact x'a _ _ | exact x'b _ | exact x'c (by assumption) | refine x'd ?_ (by assumption) | refine x'e ?_ _ | refine x'f ?_ _ | refine x'g ?_ | refine x'h ?_ ?_ _ | refine x'i ?_ _ | refine x'j ?_ | refine x'k ?_ _ | refine x'l ?_ _ _ | refine x'm ?_ | assumption | (refine x'n ?_; omega) | omega)))⟩, by simp [intOf]; omega⟩
        · have hs : szAt l d[k] < 0 := by omega
          have e := Hj.out
          rw [szG_stop hlt hs] at e
          obtain ⟨r, hr⟩ : ∃ r, szAt l d[k] = r := ⟨_, rfl⟩
          rw [hr] at hs
          have He := Lib.hid e
          have Hr := Lib.hid hr
          clear e hr
          go_wp2_with (go_at_call 175; refine (szAtom_any hle1 hle2 (by omega) (by omega)).mono ?_; rintro e w' ⟨rfl, hx9⟩; rw [show szA l d[k].1.size d[k].2.length = r from Hr.out])
          go_ret
          exact ⟨by rw [← He.out]; rfl, (by refine x'z ?_; repeat (with_reducible (first | exact x'a _ _ | exact x'b _ | exact x'c (by assumption) | refine x'd ?_ (by assumption) | refine x'e ?_ _ | refine x'f ?_ _ | refine x'g ?_ | refine x'h ?_ ?_ _ | refine x'i ?_ _ | refine x'j ?_ | refine x'k ?_ _ | refine x'l ?_ _ _ | refine x'm ?_ | assumption | (refine x'n ?_; omega) | omega)))⟩
      · go_wp2
        go_ret
        have e := Hj.out
        rw [szG_end hlt] at e
        exact ⟨by rw [← e]; rfl, hy⟩
theorem tA : SlT Try.prog 53 81 2 40 (.agg #[.string ⟨#[]⟩, .slice none 0 0]) := ⟨Try.underlying53, by kernel_rfl, rfl, by omega⟩
theorem sAts_form {w : World} {v : Value} {d : List At} {F : List Nat} (h : sAts w [v] d F) : ∃ A c, v = .slice A d.length c := by
  obtain ⟨v', e, h⟩ := h
  injection e with e
  subst e
  obtain ⟨A, c, e, _⟩ := h.form
  exact ⟨A, c, e⟩
set_option maxHeartbeats 1000000 in
theorem toAtomS_d {A : Option Addr} {c : Nat} {d : List At} {w : World} (hb : BAts d) (h : vAts w [.slice A d.length c] d) :
    Calls Try.prog 104 #[.slice A d.length c] w fun e w' => ∃ v F, e = .returned v ∧ (∃ y, w' = ext w y) ∧ sAts w' [v] d F ∧ F.Nodup ∧ ∀ b ∈ F, w.heap.size ≤ b := by
  have hx := hb.1
  have Hl := Lib.hid hb.each
  have h1 := (vAts_get h).2
  clear hb h
  go_enter Try.func104, Try.ntmps104
  go_wp2_with (at_make; refine wpList_makeF (E := sAt) _ rfl _ _ _ rfl tA rfl rfl d (by omega) (by omega) ?_; intro w1 hS hx1 hg1)
  go_loopw [4] (fun i wr => ∃ (k : Nat) (F : List Nat), i = .int .i64 k ∧ k ≤ d.length ∧ Fill 81 2 sAt wr (.slice (some ⟨w.heap.size, 0, none⟩) d.length d.length) d.length [.string ⟨#[]⟩, .slice none 0 0] d k F ∧ F.Nodup ∧ (∀ b ∈ F, w.heap.size ≤ b) ∧ ∃ y, wr = ext w y) (fun i _ => d.length - (intOf i).toNat)
  case atStart => exact ⟨0, _, rfl, by omega, hS, by simp, by simp, hx1⟩
  case round =>
    obtain ⟨k, F, rfl, hk, hSk, hN, hF, hy⟩ := hrel
    have HF := Lib.hid hF
    have HN := Lib.hid hN
    clear hF hN
    by_cases hlt : k < d.length
    · obtain ⟨b, o, A', c', rfl, hb, hc, hd, hv⟩ := (h1.toExt hy).atA hlt
      have hle := (Hl.out d[k] (List.getElem_mem hlt)).2
      clear hS hx1
      go_wp2_with (go_at_call 177; refine (toAtom_any hle hv).mono ?_; rintro e w2 ⟨v2, F2, rfl, hx2, hS2, hF2⟩; obtain ⟨A2, c2, rfl, _⟩ := hS2.form; have HS := Lib.hid (hSk.toExt hx2); have Hc := HS.out.cell (j := k * 2) (by omega); have Hd := HS.out.cell (j := k * 2 + 1) (by omega); obtain ⟨⟨u, hu⟩, hf, hg⟩ := Hc; obtain ⟨⟨u', hu'⟩, hf', _⟩ := Hd)
      obtain ⟨h3, h4⟩ := HS.out.put2 hlt rfl (Fk := F2) (by simpa using sP_mk (F0 := []) ⟨rfl, rfl⟩ ⟨_, rfl, hS2⟩) (nodup_more HN.out hS2.nodup hSk.lt hF2)
      exact ⟨⟨k + 1, F ++ F2, by go_num, by omega, h3, nodup_more HN.out hS2.nodup hSk.lt hF2, fun b hb => by
        rcases List.mem_append.1 hb with h | h
        · exact HF.out b h
        · exact Nat.le_trans (size_of_ext hy) (hF2 b h), (h4.isExt (trans_ext hy hx2) (by simp))⟩, by simp [intOf]; omega⟩
    · go_wp2
      go_ret
      exact ⟨_, F, rfl, hy, ⟨_, rfl, hSk.done rfl (by omega)⟩, HN.out, HF.out⟩
set_option maxHeartbeats 1000000 in
theorem eqAtomS_d {A A' : Option Addr} {c c' : Nat} {d d' : List At} {w : World} (hb : BAts d) (h : vAts w [.slice A d.length c] d) (hb' : BAts d') (h' : vAts w [.slice A' d'.length c'] d') :
    Calls Try.prog 107 #[.slice A d.length c, .slice A' d'.length c'] w fun e w' => e = .returned (.bool (decide (d = d'))) ∧ ∃ y, w' = ext w y := by
  have hx := hb.1
  have hy := hb'.1
  have Hxl := Lib.hid hb.each
  have Hyl := Lib.hid hb'.each
  have h1 := (vAts_get h).2
  have h2 := (vAts_get h').2
  clear hb hb' h h'
  by_cases hl : d.length = d'.length
  · have hn : ((d.length : Int) != (d'.length : Int)) = false := by simp [hl]
    have hl2 : d'.length ≤ d.length := by omega
    have hl3 : d.length ≤ d'.length := by omega
    have HL := Lib.hid hl
    clear hl
    go_enter Try.func107, Try.ntmps107
    go_wp2
    go_loopw [5] (fun i wr => ∃ k : Nat, i = .int .i64 k ∧ k ≤ d.length ∧ d.take k = d'.take k ∧ ∃ y, wr = ext w y) (fun i _ => d.length - (intOf i).toNat)
    case atStart => exact ⟨0, rfl, by omega, by simp, refl_ext w⟩
    case round =>
      obtain ⟨k, rfl, hk, ht, hw⟩ := hrel
      have Ht := Lib.hid ht
      clear ht
      by_cases hlt : k < d.length
      · have hlt2 : k < d'.length := by omega
        obtain ⟨b, o, A1, c1, rfl, hb, hc, hd, hv⟩ := (h1.toExt hw).atA hlt
        obtain ⟨b', o', A2, c2, rfl, hb', hc', hd', hv'⟩ := (h2.toExt hw).atA hlt2
        have q1 : d[k].2.length ≤ 1000000000 := by have := (Hxl.out d[k] (List.getElem_mem hlt)).2; omega
        have q2 : d'[k].2.length ≤ 1000000000 := by have := (Hyl.out d'[k] (List.getElem_mem hlt2)).2; omega
        by_cases he : d[k] = d'[k]
        · have He := Lib.hid he
          have Hd := Lib.hid (show decide ((d[k].1, d[k].2) = (d'[k].1, d'[k].2)) = true by simp [he])
          clear he
          go_wp2
          refine wp_region_ext (by kernel_rfl) (by kernel_rfl) ?_
          repeat (go_big_quiet_step ((go_at_call 178; exact quietEb (eqAtom_any q1 hv.ext q2 hv'.ext) Hd.out)))
          refine wpQuiet_nil ?_
          rintro _ ⟨z, rfl⟩
          go_wp2
          exact ⟨⟨k + 1, by go_num, by omega, take_snoc_eq _ _ Ht.out He.out, (by refine x'z ?_; repeat (with_reducible (first | exact x'a _ _ | exact x'b _ | exact x'c (by assumption) | refine x'd ?_ (by assumption) | refine x'e ?_ _ | refine x'f ?_ _ | refine x'g ?_ | refine x'h ?_ ?_ _ | refine x'i ?_ _ | refine x'j ?_ | refine x'k ?_ _ | refine x'l ?_ _ _ | refine x'm ?_ | assumption | (refine x'n ?_; omega) | omega)))⟩, by simp [intOf]; omega⟩
        · have He := Lib.hid he
          have Hd := Lib.hid (show decide ((d[k].1, d[k].2) = (d'[k].1, d'[k].2)) = false from decide_eq_false he)
          clear he
          go_wp2
          refine wp_region_ext (by kernel_rfl) (by kernel_rfl) ?_
          repeat (go_big_quiet_step ((go_at_call 178; exact quietEb (eqAtom_any q1 hv.ext q2 hv'.ext) Hd.out)))
          refine wpQuiet_nil ?_
          rintro _ ⟨z, rfl⟩
          go_wp2
          go_ret
          exact ⟨by rw [decide_eq_false (ne_of_at hlt hlt2 He.out)]; rfl, (by refine x'z ?_; repeat (with_reducible (first | exact x'a _ _ | exact x'b _ | exact x'c (by assumption) | refine x'd ?_ (by assumption) | refine x'e ?_ _ | refine x'f ?_ _ | refine x'g ?_ | refine x'h ?_ ?_ _ | refine x'i ?_ _ | refine x'j ?_ | refine x'k ?_ _ | refine x'l ?_ _ _ | refine x'm ?_ | assumption | (refine x'n ?_; omega) | omega)))⟩
      · go_wp2
        go_ret
        exact ⟨by rw [decide_eq_true (all_eq HL.out hlt Ht.out)]; rfl, hw⟩
  · have hn : ((d.length : Int) != (d'.length : Int)) = true := by simp; omega
    go_enter Try.func107, Try.ntmps107
    go_wp2
    go_ret
    exact ⟨by rw [decide_eq_false (by rintro rfl; exact hl rfl)]; rfl, refl_ext w⟩
end Go.Proofs.Ytfigcfajkilhiaa

/- Databases: what they read as; the laws' helpers on them: the size, a copy, equality. -/
namespace Go.Proofs.Ytfigcfajkilhiaa
open Go.RowKit

abbrev vTb : VE Td := vP 1 vS vRel
abbrev vDb : VE Dbd := vSl 3 vTb
abbrev sTb : SE Td := sP 1 sS sRel
abbrev sDb : SE Dbd := sSl 108 3 sTb
theorem sTb_v {w : World} (c : List Value) (d : Td) (F : List Nat) (h : sTb w c d F) : vTb w c d := sP_v sS_v sRel_v c d F h
theorem sDb_v {w : World} (c : List Value) (d : Dbd) (F : List Nat) (h : sDb w c d F) : vDb w c d := sSl_v sTb_v c d F h
def QTb (x : Td) : Prop := x.1.size ≤ maxLen ∧ QRel x.2
def QDb (d : Dbd) : Prop := d.length ≤ maxLen ∧ ∀ x ∈ d, QTb x
def cTb (x : Td) : Nat := x.1.size + (x.2.2.length + (x.2.2.map List.length).sum)
def BDb (d : Dbd) : Prop := (d.length ≤ 1048576 ∧ (d.map cTb).sum ≤ 1048576) ∧ ∀ x ∈ d, I64 x.2.1
theorem BDb.each {d : Dbd} (h : BDb d) : ∀ x ∈ d, x.1.size ≤ 1048576 ∧ BRel x.2 := fun x hx => by
  have h1 := sum_each (c := cTb) hx
  have h2 := h.1.2
  unfold cTb at h1 h2
  exact ⟨by omega, h.2 x hx, by omega, by omega⟩
def szTb (l : Int) (x : Td) : Int := if l - x.1.size < 0 then -1 else szN szI (l - x.1.size) x.2.2
theorem szN_sub {α : Type} {f : Int → α → Int} {c : α → Nat} (hf : ∀ l x, 0 ≤ f l x → f l x ≤ l - c x) {left : Int} {xs : List α} (h : 0 ≤ szN f left xs) : szN f left xs ≤ left - xs.length - ((xs.map c).sum : Nat) := by
  unfold szN at h ⊢
  split at h
  · omega
  · rename_i h1
    rw [if_neg h1]
    have := szG_each hf xs _ h
    omega
theorem szTb_sub (l : Int) (x : Td) (h : 0 ≤ szTb l x) : szTb l x ≤ l - cTb x := by
  unfold szTb at h ⊢
  split at h
  · omega
  · rename_i h1
    rw [if_neg h1]
    have := szN_sub (c := List.length) szI_sub h
    unfold cTb
    omega
theorem szDb_le {left : Int} {xs : Dbd} (h : 0 ≤ szN szTb left xs) : szN szTb left xs ≤ left := szN_le (fun l x h => by have := szTb_sub l x h; omega) h
theorem szDb_small {left : Int} {xs : Dbd} (hq : QDb xs) (h : 0 ≤ szN szTb left xs) (hl : left ≤ 1048576) : BDb xs := by
  have := szN_small (c := cTb) szTb_sub h
  exact ⟨⟨by omega, by omega⟩, fun x hx => (hq.2 x hx).2.1⟩
theorem RV.atT {w : World} {A : Option Addr} {d : Dbd} {k : Nat} (h : RV 3 vTb w A d) (hk : k < d.length) : ∃ b o A' c', A = some ⟨b, o, none⟩ ∧ b < w.heap.size ∧ w.cell? ⟨b, o + k * 3, none⟩ = some (.string d[k].1) ∧ w.cell? ⟨b, o + k * 3 + 1, none⟩ = some (.int .i64 d[k].2.1) ∧ w.cell? ⟨b, o + k * 3 + 2, none⟩ = some (.slice A' d[k].2.2.length c') ∧ vRel w [.int .i64 d[k].2.1, .slice A' d[k].2.2.length c'] d[k].2 := by
  obtain ⟨b, o, h1, h2, c, hc, hr, c0, c1, e, _, hs, hv⟩ := h.get hk
  obtain ⟨A', c', rfl⟩ := vRel_shape hv
  simp only [vS] at hs
  subst hs e
  exact ⟨b, o, A', c', h1, h2, by simpa using hr 0 (by simp), by simpa using hr 1 (by simp), by simpa using hr 2 (by simp), hv⟩
theorem vDb_get {w : World} {A : Option Addr} {n c : Nat} {d : Dbd} (h : vDb w [.slice A n c] d) : n = d.length ∧ RV 3 vTb w A d ∧ d.length ≤ c := by
  obtain ⟨A', c', e, h⟩ := h
  injection e with e
  injection e with e1 e2 e3
  subst e1
  exact ⟨e2, h, by omega⟩
theorem vDb_shape {w : World} {c : List Value} {d : Dbd} (h : vDb w c d) : ∃ A a, c = [.slice A d.length a] := by
  obtain ⟨A', c', e, h⟩ := h
  exact ⟨_, _, e⟩
set_option maxHeartbeats 1000000 in
theorem szTable_any {s : ByteArray} {A : Option Addr} {c : Nat} {d : Rd} {left : Int} {w : World} (hs : s.size ≤ 9223372036854775807) (hq : QRel d) (h : vRel w [.int .i64 d.1, .slice A d.2.length c] d) (h1 : 0 ≤ left) (h2 : left ≤ 1000000000) :
    Calls Try.prog 168 #[.agg #[.string s, .int .i64 d.1, .slice A d.2.length c], .int .i64 left] w fun e w' => e = .returned (.int .i64 (szTb left (s, d))) ∧ ∃ y, w' = ext w y := by
  by_cases h3 : left - s.size < 0
  · have HE := Lib.hid (show szTb left (s, d) = -1 by unfold szTb; rw [if_pos h3])
    go_enter Try.func168, Try.ntmps168
    go_wp2_with fail
    go_ret
    exact ⟨by rw [HE.out]; rfl, (by refine x'z ?_; repeat (with_reducible (first | exact x'a _ _ | exact x'b _ | exact x'c (by assumption) | refine x'd ?_ (by assumption) | refine x'e ?_ _ | refine x'f ?_ _ | refine x'g ?_ | refine x'h ?_ ?_ _ | refine x'i ?_ _ | refine x'j ?_ | refine x'k ?_ _ | refine x'l ?_ _ _ | refine x'm ?_ | assumption | (refine x'n ?_; omega) | omega)))⟩
  · have HE := Lib.hid (show szTb left (s, d) = szN szI (left - s.size) d.2 by unfold szTb; rw [if_neg h3])
    obtain ⟨l, hl⟩ : ∃ l, szN szI (left - s.size) d.2 = l := ⟨_, rfl⟩
    have HL := Lib.hid hl
    rw [hl] at HE
    by_cases c1 : l < 0
    · have HN := Lib.hid (show l = -1 by rw [← hl] at c1 ⊢; exact szI_neg c1)
      clear hl
      go_enter Try.func168, Try.ntmps168
      go_wp2_with (go_at_call 20; refine (szRelation_d hq (VD.toExt h (by refine x'z ?_; repeat (with_reducible (first | exact x'a _ _ | exact x'b _ | exact x'c (by assumption) | refine x'd ?_ (by assumption) | refine x'e ?_ _ | refine x'f ?_ _ | refine x'g ?_ | refine x'h ?_ ?_ _ | refine x'i ?_ _ | refine x'j ?_ | refine x'k ?_ _ | refine x'l ?_ _ _ | refine x'm ?_ | assumption | (refine x'n ?_; omega) | omega)))) (by omega) (by omega)).mono ?_; rintro e w1 ⟨rfl, y1, rfl⟩; rw [HL.out])
      go_ret
      exact ⟨by rw [HE.out, HN.out]; rfl, (by refine x'z ?_; repeat (with_reducible (first | exact x'a _ _ | exact x'b _ | exact x'c (by assumption) | refine x'd ?_ (by assumption) | refine x'e ?_ _ | refine x'f ?_ _ | refine x'g ?_ | refine x'h ?_ ?_ _ | refine x'i ?_ _ | refine x'j ?_ | refine x'k ?_ _ | refine x'l ?_ _ _ | refine x'm ?_ | assumption | (refine x'n ?_; omega) | omega)))⟩
    · clear hl
      go_enter Try.func168, Try.ntmps168
      go_wp2_with (go_at_call 20; refine (szRelation_d hq (VD.toExt h (by refine x'z ?_; repeat (with_reducible (first | exact x'a _ _ | exact x'b _ | exact x'c (by assumption) | refine x'd ?_ (by assumption) | refine x'e ?_ _ | refine x'f ?_ _ | refine x'g ?_ | refine x'h ?_ ?_ _ | refine x'i ?_ _ | refine x'j ?_ | refine x'k ?_ _ | refine x'l ?_ _ _ | refine x'm ?_ | assumption | (refine x'n ?_; omega) | omega)))) (by omega) (by omega)).mono ?_; rintro e w1 ⟨rfl, y1, rfl⟩; rw [HL.out])
      go_ret
      exact ⟨by rw [HE.out]; rfl, (by refine x'z ?_; repeat (with_reducible (first | exact x'a _ _ | exact x'b _ | exact x'c (by assumption) | refine x'd ?_ (by assumption) | refine x'e ?_ _ | refine x'f ?_ _ | refine x'g ?_ | refine x'h ?_ ?_ _ | refine x'i ?_ _ | refine x'j ?_ | refine x'k ?_ _ | refine x'l ?_ _ _ | refine x'm ?_ | assumption | (refine x'n ?_; omega) | omega)))⟩
set_option maxHeartbeats 1000000 in
theorem szTableS_any {A : Option Addr} {c : Nat} {d : Dbd} {left : Int} {w : World} (hq : QDb d) (h : RV 3 vTb w A d) (h1 : 0 ≤ left) (h2 : left ≤ 1000000000) :
    Calls Try.prog 85 #[.slice A d.length c, .int .i64 left] w fun e w' => e = .returned (.int .i64 (szN szTb left d)) ∧ ∃ y, w' = ext w y := by
  have hn := le_maxLen hq.1
  have Hl := Lib.hid hq.2
  clear hq
  by_cases h0 : left - d.length < 0
  · rw [show szN szTb left d = -1 by unfold szN; rw [if_pos h0]]
    go_enter Try.func85, Try.ntmps85
    go_wp2
    go_ret
    exact ⟨rfl, refl_ext w⟩
  · rw [show szN szTb left d = szG szTb (left - d.length) d by unfold szN; rw [if_neg h0]]
    go_enter Try.func85, Try.ntmps85
    go_wp2
    go_loopw [1, 5] (fun m i wr => ∃ (k : Nat) (l : Int), m = .int .i64 l ∧ i = .int .i64 k ∧ k ≤ d.length ∧ 0 ≤ l ∧ l ≤ left ∧ szG szTb l (d.drop k) = szG szTb (left - d.length) d ∧ ∃ y, wr = ext w y) (fun _ i _ => d.length - (intOf i).toNat)
    case atStart => exact ⟨0, left - d.length, rfl, rfl, by omega, by omega, by omega, by simp, refl_ext w⟩
    case round =>
      obtain ⟨k, l, rfl, rfl, hk, hl0, hl1, hj, hy⟩ := hrel
      have Hj := Lib.hid hj
      clear hj
      by_cases hlt : k < d.length
      · obtain ⟨b, o, A', c', rfl, hb, hc, hc1, hc2, hv⟩ := (h.toExt hy).atT hlt
        have hle := Hl.out d[k] (List.getElem_mem hlt)
        have hle1 := le_maxLen hle.1
        have hle2 := hle.2
        clear hle
        by_cases hs : 0 ≤ szTb l d[k]
        · have e := Hj.out
          rw [szG_step hlt hs] at e
          have he := szTb_sub l d[k] hs
          obtain ⟨r, hr⟩ : ∃ r, szTb l d[k] = r := ⟨_, rfl⟩
          rw [hr] at e hs he
          have He := Lib.hid e
          have Hr := Lib.hid hr
          clear e hr
          go_wp2_with (go_at_call 168; refine (szTable_any hle1 hle2 hv (by omega) (by omega)).mono ?_; rintro e w' ⟨rfl, hx9⟩; rw [show szTb l (d[k].1, d[k].2) = r from Hr.out])
          exact ⟨⟨k + 1, r, rfl, by go_num, by omega, by omega, by omega, He.out, (by refine x'z ?_; repeat (with_reducible (first | exact x'a _ _ | exact x'b _ | exact x'c (by assumption) | refine x'd ?_ (by assumption) | refine x'e ?_ _ | refine x'f ?_ _ | refine x'g ?_ | refine x'h ?_ ?_ _ | refine x'i ?_ _ | refine x'j ?_ | refine x'k ?_ _ | refine x'l ?_ _ _ | refine x'm ?_ | assumption | (refine x'n ?_; omega) | omega)))⟩, by simp [intOf]; omega⟩
        · have hs : szTb l d[k] < 0 := by omega
          have e := Hj.out
          rw [szG_stop hlt hs] at e
          obtain ⟨r, hr⟩ : ∃ r, szTb l d[k] = r := ⟨_, rfl⟩
          rw [hr] at hs
          have He := Lib.hid e
          have Hr := Lib.hid hr
          clear e hr
          go_wp2_with (go_at_call 168; refine (szTable_any hle1 hle2 hv (by omega) (by omega)).mono ?_; rintro e w' ⟨rfl, hx9⟩; rw [show szTb l (d[k].1, d[k].2) = r from Hr.out])
          go_ret
          exact ⟨by rw [← He.out]; rfl, (by refine x'z ?_; repeat (with_reducible (first | exact x'a _ _ | exact x'b _ | exact x'c (by assumption) | refine x'd ?_ (by assumption) | refine x'e ?_ _ | refine x'f ?_ _ | refine x'g ?_ | refine x'h ?_ ?_ _ | refine x'i ?_ _ | refine x'j ?_ | refine x'k ?_ _ | refine x'l ?_ _ _ | refine x'm ?_ | assumption | (refine x'n ?_; omega) | omega)))⟩
      · go_wp2
        go_ret
        have e := Hj.out
        rw [szG_end hlt] at e
        exact ⟨by rw [← e]; rfl, hy⟩
theorem szDatabase_d {A : Option Addr} {c : Nat} {d : Dbd} {left : Int} {w : World} (hq : QDb d) (h : vDb w [.slice A d.length c] d) (h1 : 0 ≤ left) (h2 : left ≤ 1000000000) :
    Calls Try.prog 15 #[.agg #[.slice A d.length c], .int .i64 left] w fun e w' => e = .returned (.int .i64 (szN szTb left d)) ∧ ∃ y, w' = ext w y := by
  have hv := (vDb_get h).2.1
  obtain ⟨l, hl⟩ : ∃ l, szN szTb left d = l := ⟨_, rfl⟩
  have HL := Lib.hid hl
  by_cases c1 : l < 0
  · have HN := Lib.hid (show l = -1 by
      rw [← hl] at c1 ⊢
      unfold szN at c1 ⊢
      split
      · rfl
      · rename_i h3
        rw [if_neg h3] at c1
        exact szG_neg _ _ (by omega) c1)
    clear hl h
    go_enter Try.func15, Try.ntmps15
    go_wp2_with (go_at_call 85; refine (szTableS_any hq (hv.toExt (by refine x'z ?_; repeat (with_reducible (first | exact x'a _ _ | exact x'b _ | exact x'c (by assumption) | refine x'd ?_ (by assumption) | refine x'e ?_ _ | refine x'f ?_ _ | refine x'g ?_ | refine x'h ?_ ?_ _ | refine x'i ?_ _ | refine x'j ?_ | refine x'k ?_ _ | refine x'l ?_ _ _ | refine x'm ?_ | assumption | (refine x'n ?_; omega) | omega)))) h1 h2).mono ?_; rintro e w1 ⟨rfl, y1, rfl⟩; rw [HL.out])
    go_ret
    exact ⟨by rw [HL.out, HN.out]; rfl, (by refine x'z ?_; repeat (with_reducible (first | exact x'a _ _ | exact x'b _ | exact x'c (by assumption) | refine x'd ?_ (by assumption) | refine x'e ?_ _ | refine x'f ?_ _ | refine x'g ?_ | refine x'h ?_ ?_ _ | refine x'i ?_ _ | refine x'j ?_ | refine x'k ?_ _ | refine x'l ?_ _ _ | refine x'm ?_ | assumption | (refine x'n ?_; omega) | omega)))⟩
  · clear hl h
    go_enter Try.func15, Try.ntmps15
    go_wp2_with (go_at_call 85; refine (szTableS_any hq (hv.toExt (by refine x'z ?_; repeat (with_reducible (first | exact x'a _ _ | exact x'b _ | exact x'c (by assumption) | refine x'd ?_ (by assumption) | refine x'e ?_ _ | refine x'f ?_ _ | refine x'g ?_ | refine x'h ?_ ?_ _ | refine x'i ?_ _ | refine x'j ?_ | refine x'k ?_ _ | refine x'l ?_ _ _ | refine x'm ?_ | assumption | (refine x'n ?_; omega) | omega)))) h1 h2).mono ?_; rintro e w1 ⟨rfl, y1, rfl⟩; rw [HL.out])
    go_ret
    exact ⟨by rw [HL.out]; rfl, (by refine x'z ?_; repeat (with_reducible (first | exact x'a _ _ | exact x'b _ | exact x'c (by assumption) | refine x'd ?_ (by assumption) | refine x'e ?_ _ | refine x'f ?_ _ | refine x'g ?_ | refine x'h ?_ ?_ _ | refine x'i ?_ _ | refine x'j ?_ | refine x'k ?_ _ | refine x'l ?_ _ _ | refine x'm ?_ | assumption | (refine x'n ?_; omega) | omega)))⟩
theorem sTb_form {w : World} {v0 v1 v2 : Value} {d : Td} {F : List Nat} (h : sTb w [v0, v1, v2] d F) : ∃ A c, v0 = .string d.1 ∧ v1 = .int .i64 d.2.1 ∧ v2 = .slice A d.2.2.length c ∧ sRel w [v1, v2] d.2 F := by
  obtain ⟨c0, c1, F0, F1, e0, h0, ⟨h1, f0⟩, h3, e4⟩ := h
  subst h1 f0 e4
  simp only [List.cons_append, List.nil_append, List.cons.injEq] at e0
  obtain ⟨rfl, rfl⟩ := e0
  obtain ⟨A, c, rfl, rfl, _⟩ := sRel_form h3
  exact ⟨A, c, rfl, rfl, rfl, by simpa using h3⟩
theorem sTb_mk {w : World} {s : ByteArray} {v1 v2 : Value} {r : Rd} {F : List Nat} (h : sRel w [v1, v2] r F) : sTb w [.string s, v1, v2] (s, r) F := by
  have := sP_mk (E0 := sS) (E1 := sRel) (w := w) (u := .string s) (d := (s, r)) ⟨rfl, rfl⟩ h
  simpa using this
theorem sTb_list {w : World} {c : List Value} {d : Td} {F : List Nat} (h : sTb w c d F) : ∃ A n, c = [.string d.1, .int .i64 d.2.1, .slice A d.2.2.length n] := by
  obtain ⟨c0, c1, F0, F1, e0, h0, ⟨h1, f0⟩, h3, e4⟩ := h
  subst h1
  obtain ⟨A, n, rfl⟩ := vRel_shape (sRel_v _ _ _ h3)
  exact ⟨A, n, e0⟩
set_option maxHeartbeats 1000000 in
theorem toTable_any {s : ByteArray} {A : Option Addr} {c : Nat} {d : Rd} {w : World} (hb : BRel d) (h : vRel w [.int .i64 d.1, .slice A d.2.length c] d) :
    Calls Try.prog 171 #[.agg #[.string s, .int .i64 d.1, .slice A d.2.length c]] w fun e w' => ∃ v0 v1 F, e = .returned (.agg #[.string s, v0, v1]) ∧ (∃ y, w' = ext w y) ∧ sRel w' [v0, v1] d F ∧ F.Nodup ∧ ∀ b ∈ F, w.heap.size ≤ b := by
  go_enter Try.func171, Try.ntmps171
  go_upto_region 1 with fail
  refine wp_name ?_
  intro w0 hw0
  have hx0 : ∃ y, w0 = ext w y := by rw [hw0.out]; exact (by refine x'z ?_; repeat (with_reducible (first | exact x'a _ _ | exact x'b _ | exact x'c (by assumption) | refine x'd ?_ (by assumption) | refine x'e ?_ _ | refine x'f ?_ _ | refine x'g ?_ | refine x'h ?_ ?_ _ | refine x'i ?_ _ | refine x'j ?_ | refine x'k ?_ _ | refine x'l ?_ _ _ | refine x'm ?_ | assumption | (refine x'n ?_; omega) | omega)))
  have P0 : BoxAt w0 w.heap.size #[.string s, .int .i64 d.1, .slice A d.2.length c] := by rw [hw0.out]; exact (by repeat (with_reducible (first | assumption | exact BoxAt.new _ _ _ | apply BoxAt.set3 | refine BoxAt.set3' ?_ (by omega) | apply BoxAt.set30 | apply BoxAt.set31 | apply BoxAt.set32 | apply BoxAt.set2 | refine BoxAt.set2' ?_ (by omega) | apply BoxAt.setP0 | apply BoxAt.setP1 | refine BoxAt.setO ?_ (by omega) | refine BoxAt.alloc ?_ _ | refine BoxAt.drew ?_ | refine BoxAt.toExt ?_ (by assumption))))
  have R0 : BoxAt w0 (w.heap.size + 1) #[.string ⟨#[]⟩, .int .i64 0, .slice none 0 0] := by
    rw [hw0.out]
    simpa using BoxAt.new (w.alloc (.cells #[.string s, .int .i64 d.1, .slice A d.2.length c] 165)) #[.string ⟨#[]⟩, .int .i64 0, .slice none 0 0] 108
  obtain ⟨l0, k0, k0', k0'', f0⟩ := box3 P0
  obtain ⟨m0, n0, n0', n0'', g0⟩ := box3 R0
  have hz0 := size_of_ext hx0
  clear hw0
  go_wp2_with (go_at_call 22; refine (toRelation_d hb (VD.toExt h (by refine x'z ?_; repeat (with_reducible (first | exact x'a _ _ | exact x'b _ | exact x'c (by assumption) | refine x'd ?_ (by assumption) | refine x'e ?_ _ | refine x'f ?_ _ | refine x'g ?_ | refine x'h ?_ ?_ _ | refine x'i ?_ _ | refine x'j ?_ | refine x'k ?_ _ | refine x'l ?_ _ _ | refine x'm ?_ | assumption | (refine x'n ?_; omega) | omega))))).mono ?_; rintro e w2 ⟨v2, u2, F2, rfl, hx2, hS2, hN2, hF2⟩; obtain ⟨A2, c2, rfl, rfl, _⟩ := sRel_form hS2; have P2 : BoxAt w2 w.heap.size #[.string s, .int .i64 d.1, .slice A d.2.length c] := (by repeat (with_reducible (first | assumption | exact BoxAt.new _ _ _ | apply BoxAt.set3 | refine BoxAt.set3' ?_ (by omega) | apply BoxAt.set30 | apply BoxAt.set31 | apply BoxAt.set32 | apply BoxAt.set2 | refine BoxAt.set2' ?_ (by omega) | apply BoxAt.setP0 | apply BoxAt.setP1 | refine BoxAt.setO ?_ (by omega) | refine BoxAt.alloc ?_ _ | refine BoxAt.drew ?_ | refine BoxAt.toExt ?_ (by assumption)))); have R2 : BoxAt w2 (w.heap.size + 1) #[.string ⟨#[]⟩, .int .i64 0, .slice none 0 0] := (by repeat (with_reducible (first | assumption | exact BoxAt.new _ _ _ | apply BoxAt.set3 | refine BoxAt.set3' ?_ (by omega) | apply BoxAt.set30 | apply BoxAt.set31 | apply BoxAt.set32 | apply BoxAt.set2 | refine BoxAt.set2' ?_ (by omega) | apply BoxAt.setP0 | apply BoxAt.setP1 | refine BoxAt.setO ?_ (by omega) | refine BoxAt.alloc ?_ _ | refine BoxAt.drew ?_ | refine BoxAt.toExt ?_ (by assumption)))); have O2 : BoxAt w2 w0.heap.size #[.string s, .int .i64 0, .slice none 0 0] := (by repeat (with_reducible (first | assumption | exact BoxAt.new _ _ _ | apply BoxAt.set3 | refine BoxAt.set3' ?_ (by omega) | apply BoxAt.set30 | apply BoxAt.set31 | apply BoxAt.set32 | apply BoxAt.set2 | refine BoxAt.set2' ?_ (by omega) | apply BoxAt.setP0 | apply BoxAt.setP1 | refine BoxAt.setO ?_ (by omega) | refine BoxAt.alloc ?_ _ | refine BoxAt.drew ?_ | refine BoxAt.toExt ?_ (by assumption)))); obtain ⟨l2, k2, k2', k2'', f2⟩ := box3 P2; obtain ⟨m2, n2, n2', n2'', g2⟩ := box3 O2; obtain ⟨o2, p2, p2', p2'', q2'⟩ := box3 R2)
  have hz2 := size_of_ext hx2
  simp only [World.size_alloc] at hz2 hF2
  refine bodyPost_ret (v := .agg #[.string s, .int .i64 d.1, .slice A2 d.2.length c2]) (by simp [results, Try.results171, go_sem, *]) rfl ⟨_, _, F2, rfl, (by refine x'z ?_; repeat (with_reducible (first | exact x'a _ _ | exact x'b _ | exact x'c (by assumption) | refine x'd ?_ (by assumption) | refine x'e ?_ _ | refine x'f ?_ _ | refine x'g ?_ | refine x'h ?_ ?_ _ | refine x'i ?_ _ | refine x'j ?_ | refine x'k ?_ _ | refine x'l ?_ _ _ | refine x'm ?_ | assumption | (refine x'n ?_; omega) | omega))), OD.chg (G := [w0.heap.size, w.heap.size + 1]) hS2 (by repeat (with_reducible (first | exact Chg.refl _ _ | refine Chg.trans0 ?_ (by assumption) | refine Chg.extS ?_ _ | refine Chg.alloc ?_ _ | refine Chg.drew ?_ | refine Chg.setCell ?_ (.inl (by simp)) _))) ?_, hN2, ?_⟩
  · intro b hb h
    have := hF2 b hb
    simp at h
    omega
  · intro b hb
    have := hF2 b hb
    omega
theorem tTb : SlT Try.prog 27 108 3 48 (.agg #[.string ⟨#[]⟩, .int .i64 0, .slice none 0 0]) := ⟨Try.underlying27, by kernel_rfl, rfl, by omega⟩
theorem sDb_form {w : World} {v : Value} {d : Dbd} {F : List Nat} (h : sDb w [v] d F) : ∃ A c, v = .slice A d.length c := by
  obtain ⟨v', e, h⟩ := h
  injection e with e
  subst e
  obtain ⟨A, c, e, _⟩ := h.form
  exact ⟨A, c, e⟩
set_option maxHeartbeats 1000000 in
theorem toTableS_any {A : Option Addr} {c : Nat} {d : Dbd} {w : World} (hb : BDb d) (h1 : RV 3 vTb w A d) :
    Calls Try.prog 87 #[.slice A d.length c] w fun e w' => ∃ v F, e = .returned v ∧ (∃ y, w' = ext w y) ∧ sDb w' [v] d F ∧ F.Nodup ∧ ∀ b ∈ F, w.heap.size ≤ b := by
  have hx := hb.1.1
  have Hl := Lib.hid hb.each
  clear hb
  go_enter Try.func87, Try.ntmps87
  go_wp2_with (at_make; refine wpList_makeF (E := sTb) _ rfl _ _ _ rfl tTb rfl rfl d (by omega) (by omega) ?_; intro w1 hS hx1 hg1)
  go_loopw [4] (fun i wr => ∃ (k : Nat) (F : List Nat), i = .int .i64 k ∧ k ≤ d.length ∧ Fill 108 3 sTb wr (.slice (some ⟨w.heap.size, 0, none⟩) d.length d.length) d.length [.string ⟨#[]⟩, .int .i64 0, .slice none 0 0] d k F ∧ F.Nodup ∧ (∀ b ∈ F, w.heap.size ≤ b) ∧ ∃ y, wr = ext w y) (fun i _ => d.length - (intOf i).toNat)
  case atStart => exact ⟨0, _, rfl, by omega, hS, by simp, by simp, hx1⟩
  case round =>
    obtain ⟨k, F, rfl, hk, hSk, hN, hF, hy⟩ := hrel
    have HF := Lib.hid hF
    have HN := Lib.hid hN
    clear hF hN
    by_cases hlt : k < d.length
    · obtain ⟨b, o, A', c', rfl, hb, hc, hd, hd2, hv⟩ := (h1.toExt hy).atT hlt
      have hle := (Hl.out d[k] (List.getElem_mem hlt)).2
      clear hS hx1
      go_wp2_with (go_at_call 171; refine (toTable_any hle hv).mono ?_; rintro e w2 ⟨v2, u2, F2, rfl, hx2, hS2, hN2, hF2⟩; obtain ⟨A2, c2, rfl, rfl, _⟩ := sRel_form hS2; have HS := Lib.hid (hSk.toExt hx2); have Hc := HS.out.cell (j := k * 3) (by omega); have Hd := HS.out.cell (j := k * 3 + 1) (by omega); have He := HS.out.cell (j := k * 3 + 2) (by omega); obtain ⟨⟨u, hu⟩, hf, hg⟩ := Hc; obtain ⟨⟨u', hu'⟩, hf', _⟩ := Hd; obtain ⟨⟨u'', hu''⟩, hf'', _⟩ := He)
      obtain ⟨h3, h4⟩ := HS.out.put3 hlt rfl (Fk := F2) (sTb_mk hS2) (nodup_more HN.out hN2 hSk.lt hF2)
      exact ⟨⟨k + 1, F ++ F2, by go_num, by omega, h3, nodup_more HN.out hN2 hSk.lt hF2, fun b hb => by
        rcases List.mem_append.1 hb with h | h
        · exact HF.out b h
        · exact Nat.le_trans (size_of_ext hy) (hF2 b h), (h4.isExt (trans_ext hy hx2) (by simp))⟩, by simp [intOf]; omega⟩
    · go_wp2
      go_ret
      exact ⟨_, F, rfl, hy, ⟨_, rfl, hSk.done rfl (by omega)⟩, HN.out, HF.out⟩
theorem bx1 {w : World} {B : Nat} {u : Value} (h : BoxAt w B #[u]) : B < w.heap.size ∧ w.cell? ⟨B, 0, none⟩ = some u ∧ ∀ j, w.frozen? ⟨B, j, none⟩ = false := ⟨h.1, h.2.1 0, h.2.2⟩
theorem BoxAt.set10 {w : World} {B : Nat} {a u : Value} (h : BoxAt w B #[a]) : BoxAt (w.setCell ⟨B, 0, none⟩ u) B #[u] := h.setJ (j := 0) (by simp)
set_option maxHeartbeats 1000000 in
theorem toDatabase_d {A : Option Addr} {c : Nat} {d : Dbd} {w : World} (hb : BDb d) (h : vDb w [.slice A d.length c] d) :
    Calls Try.prog 17 #[.agg #[.slice A d.length c]] w fun e w' => ∃ v F, e = .returned (.agg #[v]) ∧ (∃ y, w' = ext w y) ∧ sDb w' [v] d F ∧ F.Nodup ∧ ∀ b ∈ F, w.heap.size ≤ b := by
  have r1 := (vDb_get h).2.1
  clear h
  go_enter Try.func17, Try.ntmps17
  go_upto_region 1 with fail
  refine wp_name ?_
  intro w0 hw0
  have hx0 : ∃ y, w0 = ext w y := by rw [hw0.out]; exact (by refine x'z ?_; repeat (with_reducible (first | exact x'a _ _ | exact x'b _ | exact x'c (by assumption) | refine x'd ?_ (by assumption) | refine x'e ?_ _ | refine x'f ?_ _ | refine x'g ?_ | refine x'h ?_ ?_ _ | refine x'i ?_ _ | refine x'j ?_ | refine x'k ?_ _ | refine x'l ?_ _ _ | refine x'm ?_ | assumption | (refine x'n ?_; omega) | omega)))
  have P0 : BoxAt w0 w.heap.size #[.slice A d.length c] := by rw [hw0.out]; exact (by repeat (with_reducible (first | assumption | exact BoxAt.new _ _ _ | apply BoxAt.set10 | apply BoxAt.set2 | refine BoxAt.set2' ?_ (by omega) | apply BoxAt.setP0 | apply BoxAt.setP1 | refine BoxAt.setO ?_ (by omega) | refine BoxAt.alloc ?_ _ | refine BoxAt.drew ?_ | refine BoxAt.toExt ?_ (by assumption))))
  have R0 : BoxAt w0 (w.heap.size + 1) #[.slice none 0 0] := by
    rw [hw0.out]
    simpa using BoxAt.new (w.alloc (.cells #[.slice A d.length c] 24)) #[.slice none 0 0] 29
  obtain ⟨l0, k0, f0⟩ := bx1 P0
  obtain ⟨m0, n0, g0⟩ := bx1 R0
  have hz0 := size_of_ext hx0
  clear hw0
  go_wp2_with (go_at_call 87; refine (toTableS_any hb (r1.toExt (by refine x'z ?_; repeat (with_reducible (first | exact x'a _ _ | exact x'b _ | exact x'c (by assumption) | refine x'd ?_ (by assumption) | refine x'e ?_ _ | refine x'f ?_ _ | refine x'g ?_ | refine x'h ?_ ?_ _ | refine x'i ?_ _ | refine x'j ?_ | refine x'k ?_ _ | refine x'l ?_ _ _ | refine x'm ?_ | assumption | (refine x'n ?_; omega) | omega))))).mono ?_; rintro e w2 ⟨v2, F2, rfl, hx2, hS2, hN2, hF2⟩; obtain ⟨A2, c2, rfl⟩ := sDb_form hS2; have R2 : BoxAt w2 (w.heap.size + 1) #[.slice none 0 0] := (by repeat (with_reducible (first | assumption | exact BoxAt.new _ _ _ | apply BoxAt.set10 | apply BoxAt.set2 | refine BoxAt.set2' ?_ (by omega) | apply BoxAt.setP0 | apply BoxAt.setP1 | refine BoxAt.setO ?_ (by omega) | refine BoxAt.alloc ?_ _ | refine BoxAt.drew ?_ | refine BoxAt.toExt ?_ (by assumption)))); have O2 : BoxAt w2 w0.heap.size #[.slice none 0 0] := (by repeat (with_reducible (first | assumption | exact BoxAt.new _ _ _ | apply BoxAt.set10 | apply BoxAt.set2 | refine BoxAt.set2' ?_ (by omega) | apply BoxAt.setP0 | apply BoxAt.setP1 | refine BoxAt.setO ?_ (by omega) | refine BoxAt.alloc ?_ _ | refine BoxAt.drew ?_ | refine BoxAt.toExt ?_ (by assumption)))); obtain ⟨m2, n2, g2⟩ := bx1 O2; obtain ⟨o2, p2, q2'⟩ := bx1 R2)
  have hz2 := size_of_ext hx2
  simp only [World.size_alloc] at hz2 hF2
  refine bodyPost_ret (v := .agg #[.slice A2 d.length c2]) (by simp [results, Try.results17, go_sem, *]) rfl ⟨_, F2, rfl, (by refine x'z ?_; repeat (with_reducible (first | exact x'a _ _ | exact x'b _ | exact x'c (by assumption) | refine x'd ?_ (by assumption) | refine x'e ?_ _ | refine x'f ?_ _ | refine x'g ?_ | refine x'h ?_ ?_ _ | refine x'i ?_ _ | refine x'j ?_ | refine x'k ?_ _ | refine x'l ?_ _ _ | refine x'm ?_ | assumption | (refine x'n ?_; omega) | omega))), OD.chg (G := [w0.heap.size, w.heap.size + 1]) hS2 (by repeat (with_reducible (first | exact Chg.refl _ _ | refine Chg.trans0 ?_ (by assumption) | refine Chg.extS ?_ _ | refine Chg.alloc ?_ _ | refine Chg.drew ?_ | refine Chg.setCell ?_ (.inl (by simp)) _))) ?_, hN2, ?_⟩
  · intro b hb h
    have := hF2 b hb
    simp at h
    omega
  · intro b hb
    have := hF2 b hb
    omega
set_option maxHeartbeats 1000000 in
theorem eqTable_any {s s' : ByteArray} {A A' : Option Addr} {c c' : Nat} {d d' : Rd} {w : World} (hb : BRel d) (h : vRel w [.int .i64 d.1, .slice A d.2.length c] d) (hb' : BRel d') (h' : vRel w [.int .i64 d'.1, .slice A' d'.2.length c'] d') :
    Calls Try.prog 172 #[.agg #[.string s, .int .i64 d.1, .slice A d.2.length c], .agg #[.string s', .int .i64 d'.1, .slice A' d'.2.length c']] w fun e w' => e = .returned (.bool (decide ((s, d) = (s', d')))) ∧ ∃ y, w' = ext w y := by
  by_cases hs : s = s'
  · subst hs
    have HD := Lib.hid (show decide ((s, d) = (s, d')) = decide (d = d') by simp)
    obtain ⟨t, ht⟩ : ∃ t, decide (d = d') = t := ⟨_, rfl⟩
    have HT := Lib.hid ht
    clear ht
    cases t
    all_goals
      go_enter Try.func172, Try.ntmps172
      go_wp2_with (go_at_call 24; refine (eqRelation_d hb (VD.toExt h (by refine x'z ?_; repeat (with_reducible (first | exact x'a _ _ | exact x'b _ | exact x'c (by assumption) | refine x'd ?_ (by assumption) | refine x'e ?_ _ | refine x'f ?_ _ | refine x'g ?_ | refine x'h ?_ ?_ _ | refine x'i ?_ _ | refine x'j ?_ | refine x'k ?_ _ | refine x'l ?_ _ _ | refine x'm ?_ | assumption | (refine x'n ?_; omega) | omega)))) hb' (VD.toExt h' (by refine x'z ?_; repeat (with_reducible (first | exact x'a _ _ | exact x'b _ | exact x'c (by assumption) | refine x'd ?_ (by assumption) | refine x'e ?_ _ | refine x'f ?_ _ | refine x'g ?_ | refine x'h ?_ ?_ _ | refine x'i ?_ _ | refine x'j ?_ | refine x'k ?_ _ | refine x'l ?_ _ _ | refine x'm ?_ | assumption | (refine x'n ?_; omega) | omega))))).mono ?_; rintro e w' ⟨rfl, y, rfl⟩; rw [HT.out])
      go_ret
      exact ⟨by rw [HD.out, HT.out]; rfl, (by refine x'z ?_; repeat (with_reducible (first | exact x'a _ _ | exact x'b _ | exact x'c (by assumption) | refine x'd ?_ (by assumption) | refine x'e ?_ _ | refine x'f ?_ _ | refine x'g ?_ | refine x'h ?_ ?_ _ | refine x'i ?_ _ | refine x'j ?_ | refine x'k ?_ _ | refine x'l ?_ _ _ | refine x'm ?_ | assumption | (refine x'n ?_; omega) | omega)))⟩
  · have hb : (s.toList == s'.toList) = false := by rw [str_beq, decide_eq_false hs]
    go_enter Try.func172, Try.ntmps172
    go_wp2_with fail
    go_ret
    exact ⟨by rw [decide_eq_false (by simp [hs])]; rfl, (by refine x'z ?_; repeat (with_reducible (first | exact x'a _ _ | exact x'b _ | exact x'c (by assumption) | refine x'd ?_ (by assumption) | refine x'e ?_ _ | refine x'f ?_ _ | refine x'g ?_ | refine x'h ?_ ?_ _ | refine x'i ?_ _ | refine x'j ?_ | refine x'k ?_ _ | refine x'l ?_ _ _ | refine x'm ?_ | assumption | (refine x'n ?_; omega) | omega)))⟩
set_option maxHeartbeats 1000000 in
theorem eqTableS_any {A A' : Option Addr} {c c' : Nat} {d d' : Dbd} {w : World} (hb : BDb d) (h1 : RV 3 vTb w A d) (hb' : BDb d') (h2 : RV 3 vTb w A' d') :
    Calls Try.prog 88 #[.slice A d.length c, .slice A' d'.length c'] w fun e w' => e = .returned (.bool (decide (d = d'))) ∧ ∃ y, w' = ext w y := by
  have hx := hb.1.1
  have hy := hb'.1.1
  have Hxl := Lib.hid hb.each
  have Hyl := Lib.hid hb'.each
  clear hb hb'
  by_cases hl : d.length = d'.length
  · have hn : ((d.length : Int) != (d'.length : Int)) = false := by simp [hl]
    have hl2 : d'.length ≤ d.length := by omega
    have hl3 : d.length ≤ d'.length := by omega
    have HL := Lib.hid hl
    clear hl
    go_enter Try.func88, Try.ntmps88
    go_wp2
    go_loopw [5] (fun i wr => ∃ k : Nat, i = .int .i64 k ∧ k ≤ d.length ∧ d.take k = d'.take k ∧ ∃ y, wr = ext w y) (fun i _ => d.length - (intOf i).toNat)
    case atStart => exact ⟨0, rfl, by omega, by simp, refl_ext w⟩
    case round =>
      obtain ⟨k, rfl, hk, ht, hw⟩ := hrel
      have Ht := Lib.hid ht
      clear ht
      by_cases hlt : k < d.length
      · have hlt2 : k < d'.length := by omega
        obtain ⟨b, o, A1, c1, rfl, hb, hc, hd, hd2, hv⟩ := (h1.toExt hw).atT hlt
        obtain ⟨b', o', A2, c2, rfl, hb', hc', hd', hd2', hv'⟩ := (h2.toExt hw).atT hlt2
        have q1 := (Hxl.out d[k] (List.getElem_mem hlt)).2
        have q2 := (Hyl.out d'[k] (List.getElem_mem hlt2)).2
        by_cases he : d[k] = d'[k]
        · have He := Lib.hid he
          have Hd := Lib.hid (show decide ((d[k].1, d[k].2) = (d'[k].1, d'[k].2)) = true by simp [he])
          clear he
          go_wp2
          refine wp_region_ext (by kernel_rfl) (by kernel_rfl) ?_
          repeat (go_big_quiet_step ((go_at_call 172; exact quietEb (eqTable_any q1 (VMono.ext hv) q2 (VMono.ext hv')) Hd.out)))
          refine wpQuiet_nil ?_
          rintro _ ⟨z, rfl⟩
          go_wp2
          exact ⟨⟨k + 1, by go_num, by omega, take_snoc_eq _ _ Ht.out He.out, (by refine x'z ?_; repeat (with_reducible (first | exact x'a _ _ | exact x'b _ | exact x'c (by assumption) | refine x'd ?_ (by assumption) | refine x'e ?_ _ | refine x'f ?_ _ | refine x'g ?_ | refine x'h ?_ ?_ _ | refine x'i ?_ _ | refine x'j ?_ | refine x'k ?_ _ | refine x'l ?_ _ _ | refine x'm ?_ | assumption | (refine x'n ?_; omega) | omega)))⟩, by simp [intOf]; omega⟩
        · have He := Lib.hid he
          have Hd := Lib.hid (show decide ((d[k].1, d[k].2) = (d'[k].1, d'[k].2)) = false from decide_eq_false he)
          clear he
          go_wp2
          refine wp_region_ext (by kernel_rfl) (by kernel_rfl) ?_
          repeat (go_big_quiet_step ((go_at_call 172; exact quietEb (eqTable_any q1 (VMono.ext hv) q2 (VMono.ext hv')) Hd.out)))
          refine wpQuiet_nil ?_
          rintro _ ⟨z, rfl⟩
          go_wp2
          go_ret
          exact ⟨by rw [decide_eq_false (ne_of_at hlt hlt2 He.out)]; rfl, (by refine x'z ?_; repeat (with_reducible (first | exact x'a _ _ | exact x'b _ | exact x'c (by assumption) | refine x'd ?_ (by assumption) | refine x'e ?_ _ | refine x'f ?_ _ | refine x'g ?_ | refine x'h ?_ ?_ _ | refine x'i ?_ _ | refine x'j ?_ | refine x'k ?_ _ | refine x'l ?_ _ _ | refine x'm ?_ | assumption | (refine x'n ?_; omega) | omega)))⟩
      · go_wp2
        go_ret
        exact ⟨by rw [decide_eq_true (all_eq HL.out hlt Ht.out)]; rfl, hw⟩
  · have hn : ((d.length : Int) != (d'.length : Int)) = true := by simp; omega
    go_enter Try.func88, Try.ntmps88
    go_wp2
    go_ret
    exact ⟨by rw [decide_eq_false (by rintro rfl; exact hl rfl)]; rfl, refl_ext w⟩
set_option maxHeartbeats 1000000 in
theorem eqDatabase_d {A A' : Option Addr} {c c' : Nat} {d d' : Dbd} {w : World} (hb : BDb d) (h : vDb w [.slice A d.length c] d) (hb' : BDb d') (h' : vDb w [.slice A' d'.length c'] d') :
    Calls Try.prog 19 #[.agg #[.slice A d.length c], .agg #[.slice A' d'.length c']] w fun e w' => e = .returned (.bool (decide (d = d'))) ∧ ∃ y, w' = ext w y := by
  have r1 := (vDb_get h).2.1
  have r2 := (vDb_get h').2.1
  obtain ⟨t, ht⟩ : ∃ t, decide (d = d') = t := ⟨_, rfl⟩
  have HT := Lib.hid ht
  clear ht h h'
  cases t
  all_goals
    go_enter Try.func19, Try.ntmps19
    go_wp2_with (go_at_call 88; refine (eqTableS_any hb (r1.toExt (by refine x'z ?_; repeat (with_reducible (first | exact x'a _ _ | exact x'b _ | exact x'c (by assumption) | refine x'd ?_ (by assumption) | refine x'e ?_ _ | refine x'f ?_ _ | refine x'g ?_ | refine x'h ?_ ?_ _ | refine x'i ?_ _ | refine x'j ?_ | refine x'k ?_ _ | refine x'l ?_ _ _ | refine x'm ?_ | assumption | (refine x'n ?_; omega) | omega)))) hb' (r2.toExt (by refine x'z ?_; repeat (with_reducible (first | exact x'a _ _ | exact x'b _ | exact x'c (by assumption) | refine x'd ?_ (by assumption) | refine x'e ?_ _ | refine x'f ?_ _ | refine x'g ?_ | refine x'h ?_ ?_ _ | refine x'i ?_ _ | refine x'j ?_ | refine x'k ?_ _ | refine x'l ?_ _ _ | refine x'm ?_ | assumption | (refine x'n ?_; omega) | omega))))).mono ?_; rintro e w' ⟨rfl, y, rfl⟩; rw [HT.out])
    go_ret
    exact ⟨by rw [HT.out]; rfl, (by refine x'z ?_; repeat (with_reducible (first | exact x'a _ _ | exact x'b _ | exact x'c (by assumption) | refine x'd ?_ (by assumption) | refine x'e ?_ _ | refine x'f ?_ _ | refine x'g ?_ | refine x'h ?_ ?_ _ | refine x'i ?_ _ | refine x'j ?_ | refine x'k ?_ _ | refine x'l ?_ _ _ | refine x'm ?_ | assumption | (refine x'n ?_; omega) | omega)))⟩
end Go.Proofs.Ytfigcfajkilhiaa
