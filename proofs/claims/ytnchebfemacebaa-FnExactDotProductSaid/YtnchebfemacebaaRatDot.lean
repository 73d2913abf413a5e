/- The dot product of two lists of rational numbers; of the program and of the reference alike. -/
import Derived.Test.YtnchebfemacebaaRatSum
namespace Go.Proofs.Ytnchebfemacebaa
open Go.RowKit

def dotG : Int × Int → List (Int × Int) → List (Int × Int) → Option (Int × Int)
  | a, x :: xs, y :: ys => match mulR x y with
    | none => none
    | some p => match addR a p with
      | none => none
      | some s => dotG s xs ys
  | a, _, _ => some a
def dotR (xs ys : List (Int × Int)) : Option (Int × Int) := if xs.length = ys.length then dotG (0, 1) xs ys else none
theorem dotG_some {a p s : Int × Int} {xs ys : List (Int × Int)} {k : Nat} (h : k < xs.length) (h' : k < ys.length) (e : mulR xs[k] ys[k] = some p) (e' : addR a p = some s) : dotG a (xs.drop k) (ys.drop k) = dotG s (xs.drop (k + 1)) (ys.drop (k + 1)) := by
  rw [List.drop_eq_getElem_cons h, List.drop_eq_getElem_cons h', dotG, e]
  simp only
  rw [e']
theorem dotG_none {a : Int × Int} {xs ys : List (Int × Int)} {k : Nat} (h : k < xs.length) (h' : k < ys.length) (e : mulR xs[k] ys[k] = none) : dotG a (xs.drop k) (ys.drop k) = none := by
  rw [List.drop_eq_getElem_cons h, List.drop_eq_getElem_cons h', dotG, e]
theorem dotG_none' {a p : Int × Int} {xs ys : List (Int × Int)} {k : Nat} (h : k < xs.length) (h' : k < ys.length) (e : mulR xs[k] ys[k] = some p) (e' : addR a p = none) : dotG a (xs.drop k) (ys.drop k) = none := by
  rw [List.drop_eq_getElem_cons h, List.drop_eq_getElem_cons h', dotG, e]
  simp only
  rw [e']
theorem dotG_end {a : Int × Int} {xs ys : List (Int × Int)} {k : Nat} (h : ¬ k < xs.length) : dotG a (xs.drop k) (ys.drop k) = some a := by
  rw [List.drop_eq_nil_of_le (by omega)]
  cases ys.drop k <;> rfl
set_option maxHeartbeats 2000000 in
theorem DotProduct_any {A A' : Option Addr} {c c' : Nat} {xs ys : List (Int × Int)} {w : World} (hx : xs.length ≤ 1000000000) (h1 : RR w A xs) (_hy : ys.length ≤ 1000000000) (h2 : RR w A' ys) :
    Calls Try.prog 30 #[.slice A xs.length c, .slice A' ys.length c'] w fun e w' => e = .returned (.tuple #[.agg #[.int .i64 ((dotR xs ys).getD (0, 0)).1, .int .i64 ((dotR xs ys).getD (0, 0)).2], .bool (dotR xs ys).isSome]) ∧ ∃ y, w' = ext w y := by
  by_cases hl : xs.length = ys.length
  · have hn : ((xs.length : Int) != (ys.length : Int)) = false := by simp [hl]
    have hl2 : ys.length ≤ xs.length := by omega
    have hl3 : xs.length ≤ ys.length := by omega
    rw [show dotR xs ys = dotG (0, 1) xs ys by unfold dotR; rw [if_pos hl]]
    clear hl
    go_enter Try.func30, Try.ntmps30
    go_wp2
    go_loopw [21] (fun i wr => ∃ (k : Nat) (a : Int × Int), i = .int .i64 k ∧ k ≤ xs.length ∧ BoxAt wr w.heap.size #[.int .i64 0, .int .i64 0] ∧ BoxAt wr (w.heap.size + 1) #[.int .i64 a.1, .int .i64 a.2] ∧ (∃ y, wr = ext w y) ∧ dotG a (xs.drop k) (ys.drop k) = dotG (0, 1) xs ys) (fun i _ => xs.length - (intOf i).toNat)
    case atStart => exact ⟨0, (0, 1), rfl, by omega, (BoxAt.new _ _ _).alloc _, by simpa using BoxAt.new (w.alloc _) #[.int .i64 0, .int .i64 1] 25, (by refine Chg.isExt (F := []) ?_ (refl_ext _) (by simp); repeat (with_reducible (first | exact Chg.refl _ _ | exact Nat.le_refl _ | exact Chg.ofExt (by assumption) | refine Chg.trans0 ?_ (by assumption) | refine Chg.extS ?_ _ | refine Chg.alloc ?_ _ | refine Chg.drew ?_ | refine Chg.setCellE ?_ ?_ _ | refine le_addk ?_ _ | refine le_ext ?_ | refine le_alloc ?_ _ | refine le_setC ?_ _ _ | refine le_drew ?_ | assumption | (refine Nat.le_of_lt ?_; omega) | omega))), by simp⟩
    case round =>
      obtain ⟨k, a, rfl, hk, B0, B1, hy, hj⟩ := hrel
      have Hj := Lib.hid hj
      clear hj
      obtain ⟨_, l0, b0, b0', f0⟩ := box2 B0
      obtain ⟨_, l1, b1, b1', f1⟩ := box2 B1
      have h1' := h1.toExt hy
      have h2' := h2.toExt hy
      by_cases hlt : k < xs.length
      · have hlt2 : k < ys.length := by omega
        obtain ⟨b, o, rfl, hb, hc, hd⟩ := h1'.atR hlt
        obtain ⟨b', o', rfl, hb', hc', hd'⟩ := h2'.atR hlt2
        cases hm : mulR xs[k] ys[k] with
        | none =>
          have Hm := Lib.hid hm
          clear hm
          have He := Lib.hid (show none = dotG (0, 1) xs ys by rw [← Hj.out, dotG_none hlt hlt2 Hm.out])
          go_wp2_with fail
          go_region_held3 (fun w' => (∀ a : Addr, a.block < wr.heap.size → w'.cell? a = wr.cell? a) ∧ ∃ y, w' = ext wr y) (first | exact heldE (by refine Chg.isExt (F := []) ?_ (refl_ext _) (by simp); repeat (with_reducible (first | exact Chg.refl _ _ | exact Nat.le_refl _ | exact Chg.ofExt (by assumption) | refine Chg.trans0 ?_ (by assumption) | refine Chg.extS ?_ _ | refine Chg.alloc ?_ _ | refine Chg.drew ?_ | refine Chg.setCellE ?_ ?_ _ | refine le_addk ?_ _ | refine le_ext ?_ | refine le_alloc ?_ _ | refine le_setC ?_ _ _ | refine le_drew ?_ | assumption | (refine Nat.le_of_lt ?_; omega) | omega)))) (first | (go_at_call 69; refine MulRational_any.mono ?_; rintro e w2 ⟨rfl, hx2⟩; rw [Hm.out]; have B2 := B0.toExt (trans_ext (by repeat (with_reducible (first | exact refl_ext _ | exact alloc_ext _ _ | exact drew_ext _ | assumption | refine trans_ext ?_ (drew_ext _) | refine trans_ext ?_ (alloc_ext _ _) | refine trans_ext ?_ (by assumption)))) hx2); have B3 := B1.toExt (trans_ext (by repeat (with_reducible (first | exact refl_ext _ | exact alloc_ext _ _ | exact drew_ext _ | assumption | refine trans_ext ?_ (drew_ext _) | refine trans_ext ?_ (alloc_ext _ _) | refine trans_ext ?_ (by assumption)))) hx2); obtain ⟨_, l2, b2, b2', f2⟩ := box2 B2; obtain ⟨_, l3, b3, b3', f3⟩ := box2 B3; try (obtain ⟨_, l4, b4, b4', f4⟩ := box2 (BoxAt.toExt (BoxAt.new wr _ _).drew hx2))))
          all_goals
            go_wp2_with (go_at_call 60; refine AddRational_any.mono ?_; rintro e w3 ⟨rfl, hx3⟩; have C0 : BoxAt w3 w.heap.size #[.int .i64 0, .int .i64 0] := (by repeat (with_reducible (first | assumption | exact BoxAt.new _ _ _ | apply BoxAt.set2 | refine BoxAt.set2' ?_ (by omega) | refine BoxAt.alloc ?_ _ | refine BoxAt.drew ?_ | refine BoxAt.toExt ?_ (by assumption)))); obtain ⟨_, m2, d2, d2', g2⟩ := box2 C0)
            exact bodyPost_ret (v := .tuple #[.agg #[.int .i64 0, .int .i64 0], .bool false]) (by simp [results, Try.results30, go_sem, d2, d2', m2]) rfl ⟨by rw [← He.out]; rfl, (by refine Chg.isExt (F := []) ?_ (refl_ext _) (by simp); repeat (with_reducible (first | exact Chg.refl _ _ | exact Nat.le_refl _ | exact Chg.ofExt (by assumption) | refine Chg.trans0 ?_ (by assumption) | refine Chg.extS ?_ _ | refine Chg.alloc ?_ _ | refine Chg.drew ?_ | refine Chg.setCellE ?_ ?_ _ | refine le_addk ?_ _ | refine le_ext ?_ | refine le_alloc ?_ _ | refine le_setC ?_ _ _ | refine le_drew ?_ | assumption | (refine Nat.le_of_lt ?_; omega) | omega)))⟩
        | some p =>
          have Hm := Lib.hid hm
          clear hm
          cases hs : addR a p with
          | none =>
            have Hs := Lib.hid hs
            clear hs
            have He := Lib.hid (show none = dotG (0, 1) xs ys by rw [← Hj.out, dotG_none' hlt hlt2 Hm.out Hs.out])
            go_wp2_with fail
            go_region_held3 (fun w' => (∀ a : Addr, a.block < wr.heap.size → w'.cell? a = wr.cell? a) ∧ ∃ y, w' = ext wr y) (first | exact heldE (by refine Chg.isExt (F := []) ?_ (refl_ext _) (by simp); repeat (with_reducible (first | exact Chg.refl _ _ | exact Nat.le_refl _ | exact Chg.ofExt (by assumption) | refine Chg.trans0 ?_ (by assumption) | refine Chg.extS ?_ _ | refine Chg.alloc ?_ _ | refine Chg.drew ?_ | refine Chg.setCellE ?_ ?_ _ | refine le_addk ?_ _ | refine le_ext ?_ | refine le_alloc ?_ _ | refine le_setC ?_ _ _ | refine le_drew ?_ | assumption | (refine Nat.le_of_lt ?_; omega) | omega)))) (first | (go_at_call 69; refine MulRational_any.mono ?_; rintro e w2 ⟨rfl, hx2⟩; rw [Hm.out]; have B2 := B0.toExt (trans_ext (by repeat (with_reducible (first | exact refl_ext _ | exact alloc_ext _ _ | exact drew_ext _ | assumption | refine trans_ext ?_ (drew_ext _) | refine trans_ext ?_ (alloc_ext _ _) | refine trans_ext ?_ (by assumption)))) hx2); have B3 := B1.toExt (trans_ext (by repeat (with_reducible (first | exact refl_ext _ | exact alloc_ext _ _ | exact drew_ext _ | assumption | refine trans_ext ?_ (drew_ext _) | refine trans_ext ?_ (alloc_ext _ _) | refine trans_ext ?_ (by assumption)))) hx2); obtain ⟨_, l2, b2, b2', f2⟩ := box2 B2; obtain ⟨_, l3, b3, b3', f3⟩ := box2 B3; try (obtain ⟨_, l4, b4, b4', f4⟩ := box2 (BoxAt.toExt (BoxAt.new wr _ _).drew hx2))))
            all_goals
              go_wp2_with (go_at_call 60; refine AddRational_any.mono ?_; rintro e w3 ⟨rfl, hx3⟩; rw [Hs.out]; have C0 : BoxAt w3 w.heap.size #[.int .i64 0, .int .i64 0] := (by repeat (with_reducible (first | assumption | exact BoxAt.new _ _ _ | apply BoxAt.set2 | refine BoxAt.set2' ?_ (by omega) | refine BoxAt.alloc ?_ _ | refine BoxAt.drew ?_ | refine BoxAt.toExt ?_ (by assumption)))); have C1 : BoxAt w3 (w.heap.size + 1) #[.int .i64 a.1, .int .i64 a.2] := (by repeat (with_reducible (first | assumption | exact BoxAt.new _ _ _ | apply BoxAt.set2 | refine BoxAt.set2' ?_ (by omega) | refine BoxAt.alloc ?_ _ | refine BoxAt.drew ?_ | refine BoxAt.toExt ?_ (by assumption)))); obtain ⟨_, m2, d2, d2', g2⟩ := box2 C0; obtain ⟨_, m3, d3, d3', g3⟩ := box2 C1; (first | (refine haveThen (p := BoxAt w3 wr.heap.size #[.int .i64 p.1, .int .i64 p.2]) ?_ ?_; (focus ((repeat (with_reducible (first | assumption | exact BoxAt.new _ _ _ | apply BoxAt.set2 | refine BoxAt.set2' ?_ (by omega) | refine BoxAt.alloc ?_ _ | refine BoxAt.drew ?_ | refine BoxAt.toExt ?_ (by assumption)))); done)); intro C2) | (refine haveThen (p := BoxAt w3 w2.heap.size #[.int .i64 p.1, .int .i64 p.2]) ?_ ?_; (focus ((repeat (with_reducible (first | assumption | exact BoxAt.new _ _ _ | apply BoxAt.set2 | refine BoxAt.set2' ?_ (by omega) | refine BoxAt.alloc ?_ _ | refine BoxAt.drew ?_ | refine BoxAt.toExt ?_ (by assumption)))); done)); intro C2)); obtain ⟨_, m4, d4, d4', g4⟩ := box2 C2)
              exact bodyPost_ret (v := .tuple #[.agg #[.int .i64 0, .int .i64 0], .bool false]) (by simp [results, Try.results30, go_sem, d2, d2', m2]) rfl ⟨by rw [← He.out]; rfl, (by refine Chg.isExt (F := []) ?_ (refl_ext _) (by simp); repeat (with_reducible (first | exact Chg.refl _ _ | exact Nat.le_refl _ | exact Chg.ofExt (by assumption) | refine Chg.trans0 ?_ (by assumption) | refine Chg.extS ?_ _ | refine Chg.alloc ?_ _ | refine Chg.drew ?_ | refine Chg.setCellE ?_ ?_ _ | refine le_addk ?_ _ | refine le_ext ?_ | refine le_alloc ?_ _ | refine le_setC ?_ _ _ | refine le_drew ?_ | assumption | (refine Nat.le_of_lt ?_; omega) | omega)))⟩
          | some s =>
            have Hs := Lib.hid hs
            clear hs
            go_wp2_with fail
            go_region_held3 (fun w' => (∀ a : Addr, a.block < wr.heap.size → w'.cell? a = wr.cell? a) ∧ ∃ y, w' = ext wr y) (first | exact heldE (by refine Chg.isExt (F := []) ?_ (refl_ext _) (by simp); repeat (with_reducible (first | exact Chg.refl _ _ | exact Nat.le_refl _ | exact Chg.ofExt (by assumption) | refine Chg.trans0 ?_ (by assumption) | refine Chg.extS ?_ _ | refine Chg.alloc ?_ _ | refine Chg.drew ?_ | refine Chg.setCellE ?_ ?_ _ | refine le_addk ?_ _ | refine le_ext ?_ | refine le_alloc ?_ _ | refine le_setC ?_ _ _ | refine le_drew ?_ | assumption | (refine Nat.le_of_lt ?_; omega) | omega)))) (first | (go_at_call 69; refine MulRational_any.mono ?_; rintro e w2 ⟨rfl, hx2⟩; rw [Hm.out]; have B2 := B0.toExt (trans_ext (by repeat (with_reducible (first | exact refl_ext _ | exact alloc_ext _ _ | exact drew_ext _ | assumption | refine trans_ext ?_ (drew_ext _) | refine trans_ext ?_ (alloc_ext _ _) | refine trans_ext ?_ (by assumption)))) hx2); have B3 := B1.toExt (trans_ext (by repeat (with_reducible (first | exact refl_ext _ | exact alloc_ext _ _ | exact drew_ext _ | assumption | refine trans_ext ?_ (drew_ext _) | refine trans_ext ?_ (alloc_ext _ _) | refine trans_ext ?_ (by assumption)))) hx2); obtain ⟨_, l2, b2, b2', f2⟩ := box2 B2; obtain ⟨_, l3, b3, b3', f3⟩ := box2 B3; try (obtain ⟨_, l4, b4, b4', f4⟩ := box2 (BoxAt.toExt (BoxAt.new wr _ _).drew hx2))))
            all_goals
              go_wp2_with (go_at_call 60; refine AddRational_any.mono ?_; rintro e w3 ⟨rfl, hx3⟩; rw [Hs.out]; have C0 : BoxAt w3 w.heap.size #[.int .i64 0, .int .i64 0] := (by repeat (with_reducible (first | assumption | exact BoxAt.new _ _ _ | apply BoxAt.set2 | refine BoxAt.set2' ?_ (by omega) | refine BoxAt.alloc ?_ _ | refine BoxAt.drew ?_ | refine BoxAt.toExt ?_ (by assumption)))); have C1 : BoxAt w3 (w.heap.size + 1) #[.int .i64 a.1, .int .i64 a.2] := (by repeat (with_reducible (first | assumption | exact BoxAt.new _ _ _ | apply BoxAt.set2 | refine BoxAt.set2' ?_ (by omega) | refine BoxAt.alloc ?_ _ | refine BoxAt.drew ?_ | refine BoxAt.toExt ?_ (by assumption)))); obtain ⟨_, m2, d2, d2', g2⟩ := box2 C0; obtain ⟨_, m3, d3, d3', g3⟩ := box2 C1; (first | (refine haveThen (p := BoxAt w3 wr.heap.size #[.int .i64 p.1, .int .i64 p.2]) ?_ ?_; (focus ((repeat (with_reducible (first | assumption | exact BoxAt.new _ _ _ | apply BoxAt.set2 | refine BoxAt.set2' ?_ (by omega) | refine BoxAt.alloc ?_ _ | refine BoxAt.drew ?_ | refine BoxAt.toExt ?_ (by assumption)))); done)); intro C2) | (refine haveThen (p := BoxAt w3 w2.heap.size #[.int .i64 p.1, .int .i64 p.2]) ?_ ?_; (focus ((repeat (with_reducible (first | assumption | exact BoxAt.new _ _ _ | apply BoxAt.set2 | refine BoxAt.set2' ?_ (by omega) | refine BoxAt.alloc ?_ _ | refine BoxAt.drew ?_ | refine BoxAt.toExt ?_ (by assumption)))); done)); intro C2)); obtain ⟨_, m4, d4, d4', g4⟩ := box2 C2)
              exact ⟨⟨k + 1, s, by go_num, by omega, (by repeat (with_reducible (first | assumption | exact BoxAt.new _ _ _ | apply BoxAt.set2 | refine BoxAt.set2' ?_ (by omega) | refine BoxAt.alloc ?_ _ | refine BoxAt.drew ?_ | refine BoxAt.toExt ?_ (by assumption)))), (by repeat (with_reducible (first | assumption | exact BoxAt.new _ _ _ | apply BoxAt.set2 | refine BoxAt.set2' ?_ (by omega) | refine BoxAt.alloc ?_ _ | refine BoxAt.drew ?_ | refine BoxAt.toExt ?_ (by assumption)))), (by refine Chg.isExt (F := []) ?_ (refl_ext _) (by simp); repeat (with_reducible (first | exact Chg.refl _ _ | exact Nat.le_refl _ | exact Chg.ofExt (by assumption) | refine Chg.trans0 ?_ (by assumption) | refine Chg.extS ?_ _ | refine Chg.alloc ?_ _ | refine Chg.drew ?_ | refine Chg.setCellE ?_ ?_ _ | refine le_addk ?_ _ | refine le_ext ?_ | refine le_alloc ?_ _ | refine le_setC ?_ _ _ | refine le_drew ?_ | assumption | (refine Nat.le_of_lt ?_; omega) | omega))), by rw [← dotG_some hlt hlt2 Hm.out Hs.out]; exact Hj.out⟩, by simp [intOf]; omega⟩
      · go_wp2
        have e := Hj.out
        rw [dotG_end hlt] at e
        exact bodyPost_ret (v := .tuple #[.agg #[.int .i64 a.1, .int .i64 a.2], .bool true]) (by simp [results, Try.results30, go_sem, b0, b0']) rfl ⟨by rw [← e]; rfl, (by refine Chg.isExt (F := []) ?_ (refl_ext _) (by simp); repeat (with_reducible (first | exact Chg.refl _ _ | exact Nat.le_refl _ | exact Chg.ofExt (by assumption) | refine Chg.trans0 ?_ (by assumption) | refine Chg.extS ?_ _ | refine Chg.alloc ?_ _ | refine Chg.drew ?_ | refine Chg.setCellE ?_ ?_ _ | refine le_addk ?_ _ | refine le_ext ?_ | refine le_alloc ?_ _ | refine le_setC ?_ _ _ | refine le_drew ?_ | assumption | (refine Nat.le_of_lt ?_; omega) | omega)))⟩
  · have hn : ((xs.length : Int) != (ys.length : Int)) = true := by simp; omega
    rw [show dotR xs ys = none by unfold dotR; rw [if_neg hl]]
    go_enter Try.func30, Try.ntmps30
    go_wp2
    exact bodyPost_ret (v := .tuple #[.agg #[.int .i64 0, .int .i64 0], .bool false]) (by simp [results, Try.results30, go_sem]) rfl ⟨rfl, (by refine Chg.isExt (F := []) ?_ (refl_ext _) (by simp); repeat (with_reducible (first | exact Chg.refl _ _ | exact Nat.le_refl _ | exact Chg.ofExt (by assumption) | refine Chg.trans0 ?_ (by assumption) | refine Chg.extS ?_ _ | refine Chg.alloc ?_ _ | refine Chg.drew ?_ | refine Chg.setCellE ?_ ?_ _ | refine le_addk ?_ _ | refine le_ext ?_ | refine le_alloc ?_ _ | refine le_setC ?_ _ _ | refine le_drew ?_ | assumption | (refine Nat.le_of_lt ?_; omega) | omega)))⟩
set_option maxHeartbeats 2000000 in
theorem specDotProduct_any {A A' : Option Addr} {c c' : Nat} {xs ys : List (Int × Int)} {w : World} (hx : xs.length ≤ 1000000000) (h1 : RR w A xs) (_hy : ys.length ≤ 1000000000) (h2 : RR w A' ys) :
    Calls Try.prog 29 #[.slice A xs.length c, .slice A' ys.length c'] w fun e w' => e = .returned (.tuple #[.agg #[.int .i64 ((dotR xs ys).getD (0, 0)).1, .int .i64 ((dotR xs ys).getD (0, 0)).2], .bool (dotR xs ys).isSome]) ∧ ∃ y, w' = ext w y := by
  by_cases hl : xs.length = ys.length
  · have hn : ((xs.length : Int) != (ys.length : Int)) = false := by simp [hl]
    have hl2 : ys.length ≤ xs.length := by omega
    have hl3 : xs.length ≤ ys.length := by omega
    rw [show dotR xs ys = dotG (0, 1) xs ys by unfold dotR; rw [if_pos hl]]
    clear hl
    go_enter Try.func29, Try.ntmps29
    go_wp2
    go_loopw [7] (fun i wr => ∃ (k : Nat) (a : Int × Int), i = .int .i64 k ∧ k ≤ xs.length ∧ BoxAt wr w.heap.size #[.int .i64 0, .int .i64 0] ∧ BoxAt wr (w.heap.size + 1) #[.int .i64 a.1, .int .i64 a.2] ∧ (∃ y, wr = ext w y) ∧ dotG a (xs.drop k) (ys.drop k) = dotG (0, 1) xs ys) (fun i _ => xs.length - (intOf i).toNat)
    case atStart => exact ⟨0, (0, 1), rfl, by omega, (BoxAt.new _ _ _).alloc _, by simpa using BoxAt.new (w.alloc _) #[.int .i64 0, .int .i64 1] 25, (by refine Chg.isExt (F := []) ?_ (refl_ext _) (by simp); repeat (with_reducible (first | exact Chg.refl _ _ | exact Nat.le_refl _ | exact Chg.ofExt (by assumption) | refine Chg.trans0 ?_ (by assumption) | refine Chg.extS ?_ _ | refine Chg.alloc ?_ _ | refine Chg.drew ?_ | refine Chg.setCellE ?_ ?_ _ | refine le_addk ?_ _ | refine le_ext ?_ | refine le_alloc ?_ _ | refine le_setC ?_ _ _ | refine le_drew ?_ | assumption | (refine Nat.le_of_lt ?_; omega) | omega))), by simp⟩
    case round =>
      obtain ⟨k, a, rfl, hk, B0, B1, hy, hj⟩ := hrel
      have Hj := Lib.hid hj
      clear hj
      obtain ⟨_, l0, b0, b0', f0⟩ := box2 B0
      obtain ⟨_, l1, b1, b1', f1⟩ := box2 B1
      have h1' := h1.toExt hy
      have h2' := h2.toExt hy
      by_cases hlt : k < xs.length
      · have hlt2 : k < ys.length := by omega
        obtain ⟨b, o, rfl, hb, hc, hd⟩ := h1'.atR hlt
        obtain ⟨b', o', rfl, hb', hc', hd'⟩ := h2'.atR hlt2
        cases hm : mulR xs[k] ys[k] with
        | none =>
          have Hm := Lib.hid hm
          clear hm
          have He := Lib.hid (show none = dotG (0, 1) xs ys by rw [← Hj.out, dotG_none hlt hlt2 Hm.out])
          go_wp2_with fail
          go_region_held3 (fun w' => (∀ a : Addr, a.block < wr.heap.size → w'.cell? a = wr.cell? a) ∧ ∃ y, w' = ext wr y) (first | exact heldE (by refine Chg.isExt (F := []) ?_ (refl_ext _) (by simp); repeat (with_reducible (first | exact Chg.refl _ _ | exact Nat.le_refl _ | exact Chg.ofExt (by assumption) | refine Chg.trans0 ?_ (by assumption) | refine Chg.extS ?_ _ | refine Chg.alloc ?_ _ | refine Chg.drew ?_ | refine Chg.setCellE ?_ ?_ _ | refine le_addk ?_ _ | refine le_ext ?_ | refine le_alloc ?_ _ | refine le_setC ?_ _ _ | refine le_drew ?_ | assumption | (refine Nat.le_of_lt ?_; omega) | omega)))) (first | (go_at_call 68; refine specMulRational_any.mono ?_; rintro e w2 ⟨rfl, hx2⟩; rw [Hm.out]; have B2 := B0.toExt (trans_ext (by repeat (with_reducible (first | exact refl_ext _ | exact alloc_ext _ _ | exact drew_ext _ | assumption | refine trans_ext ?_ (drew_ext _) | refine trans_ext ?_ (alloc_ext _ _) | refine trans_ext ?_ (by assumption)))) hx2); have B3 := B1.toExt (trans_ext (by repeat (with_reducible (first | exact refl_ext _ | exact alloc_ext _ _ | exact drew_ext _ | assumption | refine trans_ext ?_ (drew_ext _) | refine trans_ext ?_ (alloc_ext _ _) | refine trans_ext ?_ (by assumption)))) hx2); obtain ⟨_, l2, b2, b2', f2⟩ := box2 B2; obtain ⟨_, l3, b3, b3', f3⟩ := box2 B3; try (obtain ⟨_, l4, b4, b4', f4⟩ := box2 (BoxAt.toExt (BoxAt.new wr _ _).drew hx2))))
          go_wp2
          all_goals exact bodyPost_ret (v := .tuple #[.agg #[.int .i64 0, .int .i64 0], .bool false]) (by simp [results, Try.results29, go_sem, b2, b2', l2]) rfl ⟨by rw [← He.out]; rfl, (by refine Chg.isExt (F := []) ?_ (refl_ext _) (by simp); repeat (with_reducible (first | exact Chg.refl _ _ | exact Nat.le_refl _ | exact Chg.ofExt (by assumption) | refine Chg.trans0 ?_ (by assumption) | refine Chg.extS ?_ _ | refine Chg.alloc ?_ _ | refine Chg.drew ?_ | refine Chg.setCellE ?_ ?_ _ | refine le_addk ?_ _ | refine le_ext ?_ | refine le_alloc ?_ _ | refine le_setC ?_ _ _ | refine le_drew ?_ | assumption | (refine Nat.le_of_lt ?_; omega) | omega)))⟩
        | some p =>
          have Hm := Lib.hid hm
          clear hm
          cases hs : addR a p with
          | none =>
            have Hs := Lib.hid hs
            clear hs
            have He := Lib.hid (show none = dotG (0, 1) xs ys by rw [← Hj.out, dotG_none' hlt hlt2 Hm.out Hs.out])
            go_wp2_with fail
            go_region_held3 (fun w' => (∀ a : Addr, a.block < wr.heap.size → w'.cell? a = wr.cell? a) ∧ ∃ y, w' = ext wr y) (first | exact heldE (by refine Chg.isExt (F := []) ?_ (refl_ext _) (by simp); repeat (with_reducible (first | exact Chg.refl _ _ | exact Nat.le_refl _ | exact Chg.ofExt (by assumption) | refine Chg.trans0 ?_ (by assumption) | refine Chg.extS ?_ _ | refine Chg.alloc ?_ _ | refine Chg.drew ?_ | refine Chg.setCellE ?_ ?_ _ | refine le_addk ?_ _ | refine le_ext ?_ | refine le_alloc ?_ _ | refine le_setC ?_ _ _ | refine le_drew ?_ | assumption | (refine Nat.le_of_lt ?_; omega) | omega)))) (first | (go_at_call 68; refine specMulRational_any.mono ?_; rintro e w2 ⟨rfl, hx2⟩; rw [Hm.out]; have B2 := B0.toExt (trans_ext (by repeat (with_reducible (first | exact refl_ext _ | exact alloc_ext _ _ | exact drew_ext _ | assumption | refine trans_ext ?_ (drew_ext _) | refine trans_ext ?_ (alloc_ext _ _) | refine trans_ext ?_ (by assumption)))) hx2); have B3 := B1.toExt (trans_ext (by repeat (with_reducible (first | exact refl_ext _ | exact alloc_ext _ _ | exact drew_ext _ | assumption | refine trans_ext ?_ (drew_ext _) | refine trans_ext ?_ (alloc_ext _ _) | refine trans_ext ?_ (by assumption)))) hx2); obtain ⟨_, l2, b2, b2', f2⟩ := box2 B2; obtain ⟨_, l3, b3, b3', f3⟩ := box2 B3; try (obtain ⟨_, l4, b4, b4', f4⟩ := box2 (BoxAt.toExt (BoxAt.new wr _ _).drew hx2))))
            all_goals
              go_wp2_with (go_at_call 58; refine specAddRational_any.mono ?_; rintro e w3 ⟨rfl, hx3⟩; rw [Hs.out]; have C0 : BoxAt w3 w.heap.size #[.int .i64 0, .int .i64 0] := (by repeat (with_reducible (first | assumption | exact BoxAt.new _ _ _ | apply BoxAt.set2 | refine BoxAt.set2' ?_ (by omega) | refine BoxAt.alloc ?_ _ | refine BoxAt.drew ?_ | refine BoxAt.toExt ?_ (by assumption)))); have C1 : BoxAt w3 (w.heap.size + 1) #[.int .i64 a.1, .int .i64 a.2] := (by repeat (with_reducible (first | assumption | exact BoxAt.new _ _ _ | apply BoxAt.set2 | refine BoxAt.set2' ?_ (by omega) | refine BoxAt.alloc ?_ _ | refine BoxAt.drew ?_ | refine BoxAt.toExt ?_ (by assumption)))); obtain ⟨_, m2, d2, d2', g2⟩ := box2 C0; obtain ⟨_, m3, d3, d3', g3⟩ := box2 C1; (first | (refine haveThen (p := BoxAt w3 wr.heap.size #[.int .i64 p.1, .int .i64 p.2]) ?_ ?_; (focus ((repeat (with_reducible (first | assumption | exact BoxAt.new _ _ _ | apply BoxAt.set2 | refine BoxAt.set2' ?_ (by omega) | refine BoxAt.alloc ?_ _ | refine BoxAt.drew ?_ | refine BoxAt.toExt ?_ (by assumption)))); done)); intro C2) | (refine haveThen (p := BoxAt w3 w2.heap.size #[.int .i64 p.1, .int .i64 p.2]) ?_ ?_; (focus ((repeat (with_reducible (first | assumption | exact BoxAt.new _ _ _ | apply BoxAt.set2 | refine BoxAt.set2' ?_ (by omega) | refine BoxAt.alloc ?_ _ | refine BoxAt.drew ?_ | refine BoxAt.toExt ?_ (by assumption)))); done)); intro C2)); obtain ⟨_, m4, d4, d4', g4⟩ := box2 C2)
              exact bodyPost_ret (v := .tuple #[.agg #[.int .i64 0, .int .i64 0], .bool false]) (by simp [results, Try.results29, go_sem, d2, d2']) rfl ⟨by rw [← He.out]; rfl, (by refine Chg.isExt (F := []) ?_ (refl_ext _) (by simp); repeat (with_reducible (first | exact Chg.refl _ _ | exact Nat.le_refl _ | exact Chg.ofExt (by assumption) | refine Chg.trans0 ?_ (by assumption) | refine Chg.extS ?_ _ | refine Chg.alloc ?_ _ | refine Chg.drew ?_ | refine Chg.setCellE ?_ ?_ _ | refine le_addk ?_ _ | refine le_ext ?_ | refine le_alloc ?_ _ | refine le_setC ?_ _ _ | refine le_drew ?_ | assumption | (refine Nat.le_of_lt ?_; omega) | omega)))⟩
          | some s =>
            have Hs := Lib.hid hs
            clear hs
            go_wp2_with fail
            go_region_held3 (fun w' => (∀ a : Addr, a.block < wr.heap.size → w'.cell? a = wr.cell? a) ∧ ∃ y, w' = ext wr y) (first | exact heldE (by refine Chg.isExt (F := []) ?_ (refl_ext _) (by simp); repeat (with_reducible (first | exact Chg.refl _ _ | exact Nat.le_refl _ | exact Chg.ofExt (by assumption) | refine Chg.trans0 ?_ (by assumption) | refine Chg.extS ?_ _ | refine Chg.alloc ?_ _ | refine Chg.drew ?_ | refine Chg.setCellE ?_ ?_ _ | refine le_addk ?_ _ | refine le_ext ?_ | refine le_alloc ?_ _ | refine le_setC ?_ _ _ | refine le_drew ?_ | assumption | (refine Nat.le_of_lt ?_; omega) | omega)))) (first | (go_at_call 68; refine specMulRational_any.mono ?_; rintro e w2 ⟨rfl, hx2⟩; rw [Hm.out]; have B2 := B0.toExt (trans_ext (by repeat (with_reducible (first | exact refl_ext _ | exact alloc_ext _ _ | exact drew_ext _ | assumption | refine trans_ext ?_ (drew_ext _) | refine trans_ext ?_ (alloc_ext _ _) | refine trans_ext ?_ (by assumption)))) hx2); have B3 := B1.toExt (trans_ext (by repeat (with_reducible (first | exact refl_ext _ | exact alloc_ext _ _ | exact drew_ext _ | assumption | refine trans_ext ?_ (drew_ext _) | refine trans_ext ?_ (alloc_ext _ _) | refine trans_ext ?_ (by assumption)))) hx2); obtain ⟨_, l2, b2, b2', f2⟩ := box2 B2; obtain ⟨_, l3, b3, b3', f3⟩ := box2 B3; try (obtain ⟨_, l4, b4, b4', f4⟩ := box2 (BoxAt.toExt (BoxAt.new wr _ _).drew hx2))))
            all_goals
              go_wp2_with (go_at_call 58; refine specAddRational_any.mono ?_; rintro e w3 ⟨rfl, hx3⟩; rw [Hs.out]; have C0 : BoxAt w3 w.heap.size #[.int .i64 0, .int .i64 0] := (by repeat (with_reducible (first | assumption | exact BoxAt.new _ _ _ | apply BoxAt.set2 | refine BoxAt.set2' ?_ (by omega) | refine BoxAt.alloc ?_ _ | refine BoxAt.drew ?_ | refine BoxAt.toExt ?_ (by assumption)))); have C1 : BoxAt w3 (w.heap.size + 1) #[.int .i64 a.1, .int .i64 a.2] := (by repeat (with_reducible (first | assumption | exact BoxAt.new _ _ _ | apply BoxAt.set2 | refine BoxAt.set2' ?_ (by omega) | refine BoxAt.alloc ?_ _ | refine BoxAt.drew ?_ | refine BoxAt.toExt ?_ (by assumption)))); obtain ⟨_, m2, d2, d2', g2⟩ := box2 C0; obtain ⟨_, m3, d3, d3', g3⟩ := box2 C1; (first | (refine haveThen (p := BoxAt w3 wr.heap.size #[.int .i64 p.1, .int .i64 p.2]) ?_ ?_; (focus ((repeat (with_reducible (first | assumption | exact BoxAt.new _ _ _ | apply BoxAt.set2 | refine BoxAt.set2' ?_ (by omega) | refine BoxAt.alloc ?_ _ | refine BoxAt.drew ?_ | refine BoxAt.toExt ?_ (by assumption)))); done)); intro C2) | (refine haveThen (p := BoxAt w3 w2.heap.size #[.int .i64 p.1, .int .i64 p.2]) ?_ ?_; (focus ((repeat (with_reducible (first | assumption | exact BoxAt.new _ _ _ | apply BoxAt.set2 | refine BoxAt.set2' ?_ (by omega) | refine BoxAt.alloc ?_ _ | refine BoxAt.drew ?_ | refine BoxAt.toExt ?_ (by assumption)))); done)); intro C2)); obtain ⟨_, m4, d4, d4', g4⟩ := box2 C2)
              exact ⟨⟨k + 1, s, by go_num, by omega, (by repeat (with_reducible (first | assumption | exact BoxAt.new _ _ _ | apply BoxAt.set2 | refine BoxAt.set2' ?_ (by omega) | refine BoxAt.alloc ?_ _ | refine BoxAt.drew ?_ | refine BoxAt.toExt ?_ (by assumption)))), (by repeat (with_reducible (first | assumption | exact BoxAt.new _ _ _ | apply BoxAt.set2 | refine BoxAt.set2' ?_ (by omega) | refine BoxAt.alloc ?_ _ | refine BoxAt.drew ?_ | refine BoxAt.toExt ?_ (by assumption)))), (by refine Chg.isExt (F := []) ?_ (refl_ext _) (by simp); repeat (with_reducible (first | exact Chg.refl _ _ | exact Nat.le_refl _ | exact Chg.ofExt (by assumption) | refine Chg.trans0 ?_ (by assumption) | refine Chg.extS ?_ _ | refine Chg.alloc ?_ _ | refine Chg.drew ?_ | refine Chg.setCellE ?_ ?_ _ | refine le_addk ?_ _ | refine le_ext ?_ | refine le_alloc ?_ _ | refine le_setC ?_ _ _ | refine le_drew ?_ | assumption | (refine Nat.le_of_lt ?_; omega) | omega))), by rw [← dotG_some hlt hlt2 Hm.out Hs.out]; exact Hj.out⟩, by simp [intOf]; omega⟩
      · go_wp2
        have e := Hj.out
        rw [dotG_end hlt] at e
        exact bodyPost_ret (v := .tuple #[.agg #[.int .i64 a.1, .int .i64 a.2], .bool true]) (by simp [results, Try.results29, go_sem, b0, b0']) rfl ⟨by rw [← e]; rfl, (by refine Chg.isExt (F := []) ?_ (refl_ext _) (by simp); repeat (with_reducible (first | exact Chg.refl _ _ | exact Nat.le_refl _ | exact Chg.ofExt (by assumption) | refine Chg.trans0 ?_ (by assumption) | refine Chg.extS ?_ _ | refine Chg.alloc ?_ _ | refine Chg.drew ?_ | refine Chg.setCellE ?_ ?_ _ | refine le_addk ?_ _ | refine le_ext ?_ | refine le_alloc ?_ _ | refine le_setC ?_ _ _ | refine le_drew ?_ | assumption | (refine Nat.le_of_lt ?_; omega) | omega)))⟩
  · have hn : ((xs.length : Int) != (ys.length : Int)) = true := by simp; omega
    rw [show dotR xs ys = none by unfold dotR; rw [if_neg hl]]
    go_enter Try.func29, Try.ntmps29
    go_wp2
    exact bodyPost_ret (v := .tuple #[.agg #[.int .i64 0, .int .i64 0], .bool false]) (by simp [results, Try.results29, go_sem]) rfl ⟨rfl, (by refine Chg.isExt (F := []) ?_ (refl_ext _) (by simp); repeat (with_reducible (first | exact Chg.refl _ _ | exact Nat.le_refl _ | exact Chg.ofExt (by assumption) | refine Chg.trans0 ?_ (by assumption) | refine Chg.extS ?_ _ | refine Chg.alloc ?_ _ | refine Chg.drew ?_ | refine Chg.setCellE ?_ ?_ _ | refine le_addk ?_ _ | refine le_ext ?_ | refine le_alloc ?_ _ | refine le_setC ?_ _ _ | refine le_drew ?_ | assumption | (refine Nat.le_of_lt ?_; omega) | omega)))⟩
end Go.Proofs.Ytnchebfemacebaa
