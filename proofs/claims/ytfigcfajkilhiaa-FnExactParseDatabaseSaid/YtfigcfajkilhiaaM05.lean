/- Contracts of functions that the statements reach, joined from several texts: Copy5, NewRel. -/
import Derived.Test.YtfigcfajkilhiaaM03
import Derived.Test.YtfigcfajkilhiaaM04
import Derived.Deep.RegionLaw
import Derived.Deep.DrawnRows
import Derived.Deep.DeepCutAuto
/- A relation copied by the reference, row by row into a field. -/
namespace Go.Proofs.Ytfigcfajkilhiaa
open Go.RowKit

set_option maxRecDepth 100000 in
set_option maxHeartbeats 16000000 in
theorem l5Copy_any {z : Int} {A : Option Addr} {c : Nat} {rows : List (List Int)} {w : World} (hx : rows.length ≤ 1000000000) (hxl : ∀ x ∈ rows, x.length ≤ 1000000000) (h1 : RII w A rows) :
    Calls Try.prog 152 #[.agg #[.int .i64 z, .slice A rows.length c]] w fun e w' => ∃ v0 v1 F, e = .returned (.agg #[v0, v1]) ∧ (∃ y, w' = ext w y) ∧ sRel w' [v0, v1] (z, rows) F ∧ F.Nodup ∧ ∀ b ∈ F, w.heap.size ≤ b := by
  have Hxl := Lib.hid hxl
  clear hxl
  go_enter Try.func152, Try.ntmps152
  go_upto_region 1 with fail
  refine wp_name ?_
  intro w0 hw0
  have hx0 : ∃ y, w0 = ext w y := by rw [hw0.out]; exact (by refine Chg.isExt (F := []) ?_ (refl_ext _) (by simp); repeat (with_reducible (first | exact Chg.refl _ _ | exact Nat.le_refl _ | exact Chg.ofExt (by assumption) | refine Chg.trans0 ?_ (by assumption) | refine Chg.extS ?_ _ | refine Chg.alloc ?_ _ | refine Chg.drew ?_ | refine Chg.setCellE ?_ ?_ _ | refine le_addk ?_ _ | refine le_ext ?_ | refine le_alloc ?_ _ | refine le_setC ?_ _ _ | refine le_drew ?_ | assumption | (refine Nat.le_of_lt ?_; omega) | omega)))
  have P0 : BoxAt w0 w.heap.size #[.int .i64 z, .slice A rows.length c] := by rw [hw0.out]; exact (by repeat (with_reducible (first | assumption | exact BoxAt.new _ _ _ | apply BoxAt.set2 | refine BoxAt.set2' ?_ (by omega) | apply BoxAt.setP0 | apply BoxAt.setP1 | refine BoxAt.setO ?_ (by omega) | refine BoxAt.alloc ?_ _ | refine BoxAt.drew ?_ | refine BoxAt.toExt ?_ (by assumption))))
  have R0 : BoxAt w0 (w.heap.size + 1) #[.int .i64 0, .slice none 0 0] := by
    rw [hw0.out]
    simpa using BoxAt.new (w.alloc (.cells #[.int .i64 z, .slice A rows.length c] 39)) #[.int .i64 0, .slice none 0 0] 39
  obtain ⟨l0, k0, k0', f0⟩ := bx2 P0
  obtain ⟨m0, n0, n0', g0⟩ := bx2 R0
  clear hw0
  go_upto_region 2 with fail
  refine wp_name ?_
  intro W hW
  have xW : ∃ y, W = ext w0 y := by rw [hW.out]; exact (by refine Chg.isExt (F := []) ?_ (refl_ext _) (by simp); repeat (with_reducible (first | exact Chg.refl _ _ | exact Nat.le_refl _ | exact Chg.ofExt (by assumption) | refine Chg.trans0 ?_ (by assumption) | refine Chg.extS ?_ _ | refine Chg.alloc ?_ _ | refine Chg.drew ?_ | refine Chg.setCellE ?_ ?_ _ | refine le_addk ?_ _ | refine le_ext ?_ | refine le_alloc ?_ _ | refine le_setC ?_ _ _ | refine le_drew ?_ | assumption | (refine Nat.le_of_lt ?_; omega) | omega)))
  have X0 : BoxAt W w0.heap.size #[.int .i64 z, .slice none 0 0] := by rw [hW.out]; exact (by repeat (with_reducible (first | assumption | exact BoxAt.new _ _ _ | apply BoxAt.set2 | refine BoxAt.set2' ?_ (by omega) | apply BoxAt.setP0 | apply BoxAt.setP1 | refine BoxAt.setO ?_ (by omega) | refine BoxAt.alloc ?_ _ | refine BoxAt.drew ?_ | refine BoxAt.toExt ?_ (by assumption))))
  have P1 := P0.toExt xW
  have R1 := R0.toExt xW
  have hxw := trans_ext hx0 xW
  have h1' := h1.toExt hxw
  have hpx : w.heap.size ≠ w0.heap.size := by omega
  have hrx : w.heap.size + 1 ≠ w0.heap.size := by omega
  have hw0s : w.heap.size < w0.heap.size := l0
  obtain ⟨bX, qX⟩ : ∃ b, w0.heap.size = b := ⟨_, rfl⟩
  rw [qX] at X0 hpx hrx hw0s ⊢
  have hXw : bX < W.heap.size := X0.1
  have hsz := Lib.hid (size_of_ext hxw)
  clear hW qX P0 R0 l0 k0 k0' f0 m0 n0 n0' g0
  go_wp2
  go_loopw [4] (fun i wr => ∃ (k : Nat) (A' : Option Addr) (c' : Nat) (F : List Nat), i = .int .i64 k ∧ k ≤ rows.length ∧ BoxAt wr bX #[.int .i64 z, .slice A' k c'] ∧ SV 48 1 (sSl 3 1 sI) wr (.slice A' k c') (rows.take k) F ∧ F.Nodup ∧ (∀ b ∈ F, W.heap.size ≤ b) ∧ Chg [bX] W wr) (fun i _ => rows.length - (intOf i).toNat)
  case atStart => exact ⟨0, none, 0, [], rfl, by omega, X0, SV.nil, by simp, by simp, Chg.refl _ _⟩
  case round =>
    obtain ⟨k, A', c', F, rfl, hk, hB, hS, hN, hF, hC⟩ := hrel
    have hw : ∃ y, wr = ext w y := hC.isExt hxw (by simpa using Nat.le_of_lt hw0s)
    obtain ⟨lp, p0, p0', fp⟩ := bx2 (P1.chg hC (by simpa using hpx))
    obtain ⟨lx0, q0, q0', fx⟩ := bx2 hB
    have HN := Lib.hid hN
    have HF := Lib.hid hF
    have HC := Lib.hid hC
    have HB := Lib.hid hB
    by_cases hlt : k < rows.length
    · obtain ⟨b, o, A1, c1, rfl, hb, hc, hv⟩ := (h1.toExt hw).atV hlt
      have lx := Hxl.out rows[k] (List.getElem_mem hlt)
      have Ht := Lib.hid (show rows.take (k + 1) = rows.take k ++ [rows[k]] from List.take_succ_eq_append_getElem hlt)
      have hlk : (rows.take k).length + 1 ≤ 2000000000 := by simp; omega
      have HL := Lib.hid (show (rows.take k).length = k by simp; omega)
      have hSlt := Lib.hid hS.lt
      have HS := Lib.hid hS
      have hsC := hC.size
      have HP := Lib.hid (P1.chg hC (by simpa using hpx))
      have HV := Lib.hid hv
      obtain ⟨x, hx1⟩ : ∃ x, rows[k] = x := ⟨_, rfl⟩
      rw [hx1] at hc lx Ht HV
      have hbX : bX < wr.heap.size := hB.1
      have hXF : bX ∉ F := fun h => by have := hF bX h; omega
      clear hx1 hv hN hF hC hB hS
      go_upto_region 5 with fail
      go_region_law (first
        | (refine step_appV (E := sI) (V := vI) (es := x) (by rfl) _ _ _ (by rfl) tI (by rfl) ((SV.empty wr).toExt (drew_ext _)) (by rfl) (by rfl) (HV.out.toExt (by refine Chg.isExt (F := []) ?_ (refl_ext _) (by simp); repeat (with_reducible (first | exact Chg.refl _ _ | exact Nat.le_refl _ | exact Chg.ofExt (by assumption) | refine Chg.trans0 ?_ (by assumption) | refine Chg.extS ?_ _ | refine Chg.alloc ?_ _ | refine Chg.drew ?_ | refine Chg.setCellE ?_ ?_ _ | refine le_addk ?_ _ | refine le_ext ?_ | refine le_alloc ?_ _ | refine le_setC ?_ _ _ | refine le_drew ?_ | assumption | (refine Nat.le_of_lt ?_; omega) | omega)))) vI_s vI_1 (by simp; omega) (by omega) ?_; intro v6 w6 F6 hS6 hC6 hF6; obtain ⟨A6, c6, rfl, _, _⟩ := hS6.form; have B6 := ((HB.out.alloc (.cells #[] 3)).drew).chg hC6 (by simp; omega); obtain ⟨l6, q6, q6', f6⟩ := bx2 B6; obtain ⟨m6, p6, p6', g6⟩ := bx2 (((HP.out.alloc (.cells #[] 3)).drew).chg hC6 (by simp; omega)))
        | (refine step_appB (E := sSl 3 1 sI) (d := x) (G := F6) (by rfl) _ _ _ (by rfl) tIIr (by rfl) (by rfl) (by exact BoxAt.new _ _ _) ⟨_, rfl, hS6.toExt (alloc_ext _ _)⟩ (by rfl) (by simp [Value.oneCell']) (((HS.out.toExt (trans_ext (alloc_ext _ _) (drew_ext _))).chg hC6 (fun b hb h => by have := hSlt.out b hb; simp at h; omega)).toExt (alloc_ext _ _)) (nodup_more HN.out hS6.nodup hSlt.out (fun b hb => by rcases hF6 b hb with h | h <;> simp at h <;> omega)) (by rw [HL.out]; omega) (by omega) ?_; intro v7 w7 F7 hS7 hC7 hN7 hF7; obtain ⟨A7, c7, rfl, _, _⟩ := hS7.form; have B7 := (B6.alloc (.cells #[.slice A6 x.length c6] 48)).chg hC7 hXF; obtain ⟨l7, q7, q7', f7⟩ := bx2 B7))
      all_goals
        have hz6 := hC6.size
        simp only [World.size_alloc, World.drew] at hz6
        have hn6 : ∀ b ∈ F6, wr.heap.size ≤ b := fun b hb => by
          rcases hF6 b hb with h | h
          · simp at h; omega
          · simp at h; omega
        have hF7n : ∀ b ∈ F7, W.heap.size ≤ b := fun b hb => by
          rcases hF7 b hb with h | h | h
          · exact HF.out b h
          · have := hn6 b h; omega
          · rw [World.size_alloc] at h; omega
        have hCa := (((((HC.out.alloc (.cells #[] 3)).drew).trans hC6 (fun x hx => .inr (by simp at hx; omega))).alloc (.cells #[.slice A6 x.length c6] 48)).trans hC7 (fun x hx => .inr (HF.out x hx))).setCell (p := ⟨bX, 1, none⟩) (.inl (by simp)) (.slice A7 ((rows.take k) ++ [x]).length c7)
        have hSf := hS7.chg ((Chg.refl [bX] w7).setCell (p := ⟨bX, 1, none⟩) (.inl (by simp)) (.slice A7 ((rows.take k) ++ [x]).length c7)) (fun b hb h => by have := hF7n b hb; rw [List.mem_singleton.1 h] at this; omega)
        have hBf := B7.setP1 (v' := .slice A7 ((rows.take k) ++ [x]).length c7)
        have hl1 : ((rows.take k) ++ [x]).length = k + 1 := by simp; omega
        rw [hl1, ← Ht.out] at hSf
        rw [hl1] at hBf hCa
        have HH := Lib.hid (And.intro hSf (And.intro hBf (And.intro hCa hF7n)))
        have HN7 := Lib.hid hN7
        have HL1 := Lib.hid hl1
        clear hCa hF7n hSf hBf hS7 hC7 hN7 hF7 B7 hS6 hF6 hn6 hl1
        go_wp2
        exact ⟨⟨k + 1, A7, c7, F7, by go_num, by omega, HH.out.2.1, HH.out.1, HN7.out, HH.out.2.2.2, HH.out.2.2.1⟩, by simp [intOf]; omega⟩
    · obtain rfl : k = rows.length := by omega
      rw [List.take_of_length_le (Nat.le_refl _)] at hS
      have R2 := R1.chg hC (by simpa using hrx)
      obtain ⟨m0, n0, n0', g0⟩ := bx2 R2
      have hXw : bX < wr.heap.size := hB.1
      go_wp2
      refine bodyPost_ret (v := .agg #[.int .i64 z, .slice A' rows.length c']) (by simp [results, Try.results152, go_sem, *]) rfl ⟨_, _, F, rfl, (by refine Chg.isExt (F := []) ?_ (refl_ext _) (by simp); repeat (with_reducible (first | exact Chg.refl _ _ | exact Nat.le_refl _ | exact Chg.ofExt (by assumption) | refine Chg.trans0 ?_ (by assumption) | refine Chg.extS ?_ _ | refine Chg.alloc ?_ _ | refine Chg.drew ?_ | refine Chg.setCellE ?_ ?_ _ | refine le_addk ?_ _ | refine le_ext ?_ | refine le_alloc ?_ _ | refine le_setC ?_ _ _ | refine le_drew ?_ | assumption | (refine Nat.le_of_lt ?_; omega) | omega))), sRel_mk (OD.chg (E := sII) (G := [w.heap.size + 1]) ⟨_, rfl, hS⟩ (by repeat (with_reducible (first | exact Chg.refl _ _ | refine Chg.trans0 ?_ (by assumption) | refine Chg.extS ?_ _ | refine Chg.alloc ?_ _ | refine Chg.drew ?_ | refine Chg.setCell ?_ (.inl (by simp)) _))) ?_), HN.out, ?_⟩
      · intro b hb h
        have := HF.out b hb
        have := hsz.out
        simp at h
        omega
      · intro b hb
        have := HF.out b hb
        have := hsz.out
        omega
end Go.Proofs.Ytfigcfajkilhiaa

/- Relations made of rows; rows found in relations: the program's way and the reference's. -/
namespace Go.Proofs.Ytfigcfajkilhiaa
open Go.RowKit

def RelOut (o : Option Rd) (w : World) (e : Ending) (w' : World) : Prop := ∃ v0 v1 F, e = .returned (.tuple #[.agg #[v0, v1], .bool o.isSome]) ∧ (∃ y, w' = ext w y) ∧ sRel w' [v0, v1] (o.getD (0, [])) F ∧ F.Nodup ∧ ∀ b ∈ F, w.heap.size ≤ b
theorem relOut_none {w w' : World} {e : Ending} {o : Option Rd} (ho : o = none) (he : e = .returned (.tuple #[.agg #[.int .i64 0, .slice none 0 0], .bool false])) (hx : ∃ y, w' = ext w y) : RelOut o w e w' := by
  subst ho
  exact ⟨.int .i64 0, .slice none 0 0, [], he, hx, sRel_mk (F := []) ⟨_, rfl, SV.nil⟩, by simp, by simp⟩
def okRow (a : Int) (r : List Int) : Bool := decide ((r.length : Int) = a) && rowV r
theorem rowsIn_step {a : Int} {rows : List (List Int)} {k : Nat} (h : k < rows.length) : rowsIn a (rows.drop k) = (okRow a rows[k] && rowsIn a (rows.drop (k + 1))) := by
  unfold rowsIn
  rw [List.drop_eq_getElem_cons h, List.all_cons]
  rfl
theorem rowsIn_end {a : Int} {rows : List (List Int)} {k : Nat} (h : ¬ k < rows.length) : rowsIn a (rows.drop k) = true := by
  rw [List.drop_eq_nil_of_le (by omega)]; rfl
theorem newR_bad {a : Int} {rows : List (List Int)} (h : rowsIn a rows = false) : newR a rows = none := newR_none.2 (by rw [h]; simp)
theorem newR_eq {a : Int} {rows : List (List Int)} (h : rowsIn a rows = true) : newR a rows = if rowsB a (sortR rows) = true then some (a, sortR rows) else none := by
  unfold newR
  simp [h]
theorem sum_len {m : Nat} : ∀ {l : List (List Int)}, (∀ x ∈ l, x.length ≤ m) → (l.map List.length).sum ≤ m * l.length
  | [], _ => by simp
  | x :: l, h => by
    have h1 := h x (by simp)
    have h2 := sum_len (l := l) fun y hy => h y (by simp [hy])
    rw [List.map_cons, List.sum_cons, List.length_cons, Nat.mul_add]
    omega
/-- rows of a good size for the contracts on relations -/
def RelB (d : Rd) : Prop := I64 d.1 ∧ d.2.length ≤ 1000000 ∧ ∀ x ∈ d.2, x.length ≤ 1000000000
set_option maxRecDepth 100000 in
set_option maxHeartbeats 8000000 in
theorem NewRelation_any {a : Int} {A : Option Addr} {c : Nat} {rows : List (List Int)} {w : World} (ha : I64 a) (hx : rows.length ≤ 1000000000) (hcap : rows.length ≤ c) (hxl : ∀ x ∈ rows, x.length ≤ 1000000000) (h1 : RII w A rows) :
    Calls Try.prog 160 #[.int .i64 a, .slice A rows.length c] w (RelOut (newR a rows) w) := by
  obtain ⟨ha1, ha2⟩ := ha
  have Hxl := Lib.hid hxl
  clear hxl
  go_enter Try.func160, Try.ntmps160
  go_upto_region 1 with fail
  refine wp_name ?_
  intro W hW
  have xW : ∃ y, W = ext w y := by rw [hW.out]; exact (by refine Chg.isExt (F := []) ?_ (refl_ext _) (by simp); repeat (with_reducible (first | exact Chg.refl _ _ | exact Nat.le_refl _ | exact Chg.ofExt (by assumption) | refine Chg.trans0 ?_ (by assumption) | refine Chg.extS ?_ _ | refine Chg.alloc ?_ _ | refine Chg.drew ?_ | refine Chg.setCellE ?_ ?_ _ | refine le_addk ?_ _ | refine le_ext ?_ | refine le_alloc ?_ _ | refine le_setC ?_ _ _ | refine le_drew ?_ | assumption | (refine Nat.le_of_lt ?_; omega) | omega)))
  have RW : BoxAt W w.heap.size #[.int .i64 0, .slice none 0 0] := by rw [hW.out]; exact (by repeat (with_reducible (first | assumption | exact BoxAt.new _ _ _ | apply BoxAt.set2 | refine BoxAt.set2' ?_ (by omega) | apply BoxAt.setP0 | apply BoxAt.setP1 | refine BoxAt.setO ?_ (by omega) | refine BoxAt.alloc ?_ _ | refine BoxAt.drew ?_ | refine BoxAt.toExt ?_ (by assumption))))
  clear hW
  go_wp2_with fail
  go_loopw [11] (fun i wr => ∃ k : Nat, i = .int .i64 k ∧ k ≤ rows.length ∧ Hid (rowsIn a (rows.drop k) = rowsIn a rows) ∧ ∃ y, wr = ext W y) (fun i _ => rows.length - (intOf i).toNat)
  case atStart => exact ⟨0, rfl, by omega, Lib.hid (by simp), refl_ext W⟩
  case round =>
    obtain ⟨k, rfl, hk, Hj, hy⟩ := hrel
    have hyw := trans_ext xW hy
    obtain ⟨l1, a1, a1', f1⟩ := bx2 (RW.toExt hy)
    by_cases hlt : k < rows.length
    · obtain ⟨b, o, A1, c1, rfl, hb, hc, hv⟩ := (h1.toExt hyw).atV hlt
      have lx := Hxl.out rows[k] (List.getElem_mem hlt)
      have e := Hj.out
      rw [rowsIn_step hlt] at e
      obtain ⟨x, hx1⟩ : ∃ x, rows[k] = x := ⟨_, rfl⟩
      rw [hx1] at hc hv lx e
      unfold okRow at e
      obtain ⟨t1, ht1⟩ : ∃ t, decide ((x.length : Int) = a) = t := ⟨_, rfl⟩
      obtain ⟨t2, ht2⟩ : ∃ t, rowV x = t := ⟨_, rfl⟩
      have hq : ((x.length : Int) != a) = !t1 := by rw [← ht1]; by_cases q : (x.length : Int) = a <;> simp [q]
      rw [ht1, ht2] at e
      have T2 := Lib.hid ht2
      have He := Lib.hid e
      clear e ht1 ht2 hx1
      cases t1
      · have HZ := Lib.hid (newR_bad (a := a) (rows := rows) (by rw [← He.out]; rfl))
        go_wp2
        refine bodyPost_ret (v := .tuple #[.agg #[.int .i64 0, .slice none 0 0], .bool false]) (by simp [results, Try.results160, go_sem, *]) rfl (relOut_none HZ.out rfl (by refine Chg.isExt (F := []) ?_ (refl_ext _) (by simp); repeat (with_reducible (first | exact Chg.refl _ _ | exact Nat.le_refl _ | exact Chg.ofExt (by assumption) | refine Chg.trans0 ?_ (by assumption) | refine Chg.extS ?_ _ | refine Chg.alloc ?_ _ | refine Chg.drew ?_ | refine Chg.setCellE ?_ ?_ _ | refine le_addk ?_ _ | refine le_ext ?_ | refine le_alloc ?_ _ | refine le_setC ?_ _ _ | refine le_drew ?_ | assumption | (refine Nat.le_of_lt ?_; omega) | omega))))
      · cases t2
        · have HZ := Lib.hid (newR_bad (a := a) (rows := rows) (by rw [← He.out]; rfl))
          go_wp2_with (go_at_call 189; refine (AreValidValues_any lx hv).mono ?_; rintro e w1 ⟨rfl, rfl⟩; rw [T2.out])
          refine bodyPost_ret (v := .tuple #[.agg #[.int .i64 0, .slice none 0 0], .bool false]) (by simp [results, Try.results160, go_sem, *]) rfl (relOut_none HZ.out rfl (by refine Chg.isExt (F := []) ?_ (refl_ext _) (by simp); repeat (with_reducible (first | exact Chg.refl _ _ | exact Nat.le_refl _ | exact Chg.ofExt (by assumption) | refine Chg.trans0 ?_ (by assumption) | refine Chg.extS ?_ _ | refine Chg.alloc ?_ _ | refine Chg.drew ?_ | refine Chg.setCellE ?_ ?_ _ | refine le_addk ?_ _ | refine le_ext ?_ | refine le_alloc ?_ _ | refine le_setC ?_ _ _ | refine le_drew ?_ | assumption | (refine Nat.le_of_lt ?_; omega) | omega))))
        · go_wp2_with (go_at_call 189; refine (AreValidValues_any lx hv).mono ?_; rintro e w1 ⟨rfl, rfl⟩; rw [T2.out])
          exact ⟨⟨k + 1, by go_num, by omega, Lib.hid (by simpa using He.out), (by refine Chg.isExt (F := []) ?_ (refl_ext _) (by simp); repeat (with_reducible (first | exact Chg.refl _ _ | exact Nat.le_refl _ | exact Chg.ofExt (by assumption) | refine Chg.trans0 ?_ (by assumption) | refine Chg.extS ?_ _ | refine Chg.alloc ?_ _ | refine Chg.drew ?_ | refine Chg.setCellE ?_ ?_ _ | refine le_addk ?_ _ | refine le_ext ?_ | refine le_alloc ?_ _ | refine le_setC ?_ _ _ | refine le_drew ?_ | assumption | (refine Nat.le_of_lt ?_; omega) | omega)))⟩, by simp [intOf]; omega⟩
    · have HRI := Lib.hid (show rowsIn a rows = true by rw [← Hj.out, rowsIn_end hlt])
      have RB := RW.toExt hy
      have hz0 := RB.1
      clear l1 a1 a1' f1
      go_wp2_with fail
      refine (sorted_any rows.length A c rows wr (Nat.le_refl _) hx hcap Hxl.out (h1.toExt hyw)).mono ?_
      rintro e w1 ⟨v1, F1, rfl, hx1, hS1, hN1, hF1⟩
      obtain ⟨A1, c1, rfl, hc1, _, rv1⟩ := hS1.view (V := vSl 1 vI) (sSl_v sI_v)
      have hsl := sortR_length rows
      have Hsl := Lib.hid (fun x (hx : x ∈ sortR rows) => Hxl.out x (mem_sortR.1 hx))
      have HNR := Lib.hid (newR_eq HRI.out)
      obtain ⟨sr, hsr⟩ : ∃ s, sortR rows = s := ⟨_, rfl⟩
      rw [hsr] at hS1 rv1 hsl Hsl HNR hc1 ⊢
      clear hsr
      have RB1 := RB.toExt hx1
      have hs1x : sr.length ≤ 1000000000 := by omega
      go_upto_region 8 with fail
      refine wp_name ?_
      intro w2 hw2
      have hx2 : ∃ y, w2 = ext w1 y := by rw [hw2.out]; exact (by refine Chg.isExt (F := []) ?_ (refl_ext _) (by simp); repeat (with_reducible (first | exact Chg.refl _ _ | exact Nat.le_refl _ | exact Chg.ofExt (by assumption) | refine Chg.trans0 ?_ (by assumption) | refine Chg.extS ?_ _ | refine Chg.alloc ?_ _ | refine Chg.drew ?_ | refine Chg.setCellE ?_ ?_ _ | refine le_addk ?_ _ | refine le_ext ?_ | refine le_alloc ?_ _ | refine le_setC ?_ _ _ | refine le_drew ?_ | assumption | (refine Nat.le_of_lt ?_; omega) | omega)))
      have X2 : BoxAt w2 w1.heap.size #[.int .i64 a, .slice A1 sr.length c1] := by rw [hw2.out]; exact (by repeat (with_reducible (first | assumption | exact BoxAt.new _ _ _ | apply BoxAt.set2 | refine BoxAt.set2' ?_ (by omega) | apply BoxAt.setP0 | apply BoxAt.setP1 | refine BoxAt.setO ?_ (by omega) | refine BoxAt.alloc ?_ _ | refine BoxAt.drew ?_ | refine BoxAt.toExt ?_ (by assumption))))
      have R2 := RB1.toExt hx2
      have rv2 := rv1.toExt hx2
      have hz1 : w.heap.size < w1.heap.size := RB1.1
      clear hw2
      obtain ⟨l1, a1, a1', f1⟩ := bx2 X2
      obtain ⟨l2, a2, a2', f2⟩ := bx2 R2
      obtain ⟨t, ht⟩ : ∃ t, rowsB a sr = t := ⟨_, rfl⟩
      have HT := Lib.hid ht
      rw [ht] at HNR
      have HS1 := Lib.hid (hS1.toExt hx2)
      have HN1 := Lib.hid hN1
      have HF1 := Lib.hid hF1
      have hxw : ∃ y, w2 = ext w y := trans_ext hyw (trans_ext hx1 hx2)
      have hzw := size_of_ext hyw
      clear ht hS1 hN1 hF1
      cases t
      · have HZ := Lib.hid (show newR a rows = none by rw [HNR.out]; rfl)
        go_wp2_with (go_at_call 122; refine (IsValidRelation_w hs1x Hsl.out rv2).mono ?_; rintro e w3 ⟨rfl, hx3⟩; rw [HT.out]; obtain ⟨l3, a3, a3', f3⟩ := bx2 (R2.toExt hx3))
        refine bodyPost_ret (v := .tuple #[.agg #[.int .i64 0, .slice none 0 0], .bool false]) (by simp [results, Try.results160, go_sem, *]) rfl (relOut_none HZ.out rfl (by refine Chg.isExt (F := []) ?_ (refl_ext _) (by simp); repeat (with_reducible (first | exact Chg.refl _ _ | exact Nat.le_refl _ | exact Chg.ofExt (by assumption) | refine Chg.trans0 ?_ (by assumption) | refine Chg.extS ?_ _ | refine Chg.alloc ?_ _ | refine Chg.drew ?_ | refine Chg.setCellE ?_ ?_ _ | refine le_addk ?_ _ | refine le_ext ?_ | refine le_alloc ?_ _ | refine le_setC ?_ _ _ | refine le_drew ?_ | assumption | (refine Nat.le_of_lt ?_; omega) | omega))))
      · have HZ := Lib.hid (show newR a rows = some (a, sr) by rw [HNR.out]; rfl)
        go_wp2_with (go_at_call 122; refine (IsValidRelation_w hs1x Hsl.out rv2).mono ?_; rintro e w3 ⟨rfl, hx3⟩; rw [HT.out]; obtain ⟨l3, a3, a3', f3⟩ := bx2 (R2.toExt hx3); obtain ⟨l4, a4, a4', f4⟩ := bx2 (X2.toExt hx3))
        refine bodyPost_ret (v := .tuple #[.agg #[.int .i64 a, .slice A1 sr.length c1], .bool true]) (by simp [results, Try.results160, go_sem, *]) rfl ⟨_, _, F1, by rw [HZ.out]; rfl, (by refine Chg.isExt (F := []) ?_ (refl_ext _) (by simp); repeat (with_reducible (first | exact Chg.refl _ _ | exact Nat.le_refl _ | exact Chg.ofExt (by assumption) | refine Chg.trans0 ?_ (by assumption) | refine Chg.extS ?_ _ | refine Chg.alloc ?_ _ | refine Chg.drew ?_ | refine Chg.setCellE ?_ ?_ _ | refine le_addk ?_ _ | refine le_ext ?_ | refine le_alloc ?_ _ | refine le_setC ?_ _ _ | refine le_drew ?_ | assumption | (refine Nat.le_of_lt ?_; omega) | omega))), ?_, HN1.out, fun b hb => ?_⟩
        · rw [HZ.out]
          refine sRel_mk (OD.chg (E := sII) (G := [w.heap.size]) ⟨_, rfl, HS1.out.toExt hx3⟩ (by repeat (with_reducible (first | exact Chg.refl _ _ | refine Chg.trans0 ?_ (by assumption) | refine Chg.extS ?_ _ | refine Chg.alloc ?_ _ | refine Chg.drew ?_ | refine Chg.setCell ?_ (.inl (by simp)) _))) ?_)
          intro b hb h
          have := HF1.out b hb
          rw [List.mem_singleton.1 h] at this
          omega
        · have := HF1.out b hb
          omega
end Go.Proofs.Ytfigcfajkilhiaa
