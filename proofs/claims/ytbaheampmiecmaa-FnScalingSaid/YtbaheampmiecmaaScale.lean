/- Weights multiplied by their common denominator: the program's way and the reference's. -/
import Derived.Test.YtbaheampmiecmaaRatArith
import Derived.Test.YtbaheampmiecmaaInts
import Derived.Test.YtbaheampmiecmaaApp
import Derived.Deep.DrawnRows
import Derived.Deep.AppendLies
namespace Go.Proofs.Ytbaheampmiecmaa
open Go.RowKit

def okS (r : Int × Int) : Bool := isVR r && decide (0 ≤ r.1)
def lcmS (d : Int) (r : Int × Int) : Int := d.tdiv (Int.gcd d r.2) * r.2
def scG : Int → List (Int × Int) → Option Int
  | d, [] => some d
  | d, r :: rs => if 1000 < lcmS d r then none else scG (lcmS d r) rs
def spG : Int → List (Int × Int) → Option Int
  | d, [] => some d
  | d, r :: rs => if okS r = true then (if 1000 < lcmS d r then none else spG (lcmS d r) rs) else none
def scaleR (xs : List (Int × Int)) : List Int × Int := if xs.all okS = true then (match scG 1 xs with
  | none => ([], 0)
  | some d => (xs.map fun r => r.1 * d.tdiv r.2, d)) else ([], 0)
theorem scaleR_length (xs : List (Int × Int)) : (scaleR xs).1.length ≤ xs.length := by
  unfold scaleR
  split
  · split <;> simp
  · simp
theorem spG_eq : ∀ (xs : List (Int × Int)) (d : Int), spG d xs = if xs.all okS = true then scG d xs else none
  | [], d => rfl
  | r :: rs, d => by
    rw [spG, scG, List.all_cons]
    by_cases h : okS r = true
    · rw [if_pos h, h, spG_eq rs, Bool.true_and]
      split <;> split <;> rfl
    · rw [if_neg h, if_neg (by simp [h])]
theorem scaleR_sp (xs : List (Int × Int)) : scaleR xs = match spG 1 xs with
  | none => ([], 0)
  | some d => (xs.map fun r => r.1 * d.tdiv r.2, d) := by
  unfold scaleR
  rw [spG_eq]
  split <;> rfl
theorem scG_step {d : Int} {xs : List (Int × Int)} {k : Nat} (h : k < xs.length) (h1 : ¬ 1000 < lcmS d xs[k]) : scG d (xs.drop k) = scG (lcmS d xs[k]) (xs.drop (k + 1)) := by
  rw [List.drop_eq_getElem_cons h, scG, if_neg h1]
theorem scG_none {d : Int} {xs : List (Int × Int)} {k : Nat} (h : k < xs.length) (h1 : 1000 < lcmS d xs[k]) : scG d (xs.drop k) = none := by
  rw [List.drop_eq_getElem_cons h, scG, if_pos h1]
theorem scG_end {d : Int} {xs : List (Int × Int)} {k : Nat} (h : ¬ k < xs.length) : scG d (xs.drop k) = some d := by
  rw [List.drop_eq_nil_of_le (by omega), scG]
theorem spG_step {d : Int} {xs : List (Int × Int)} {k : Nat} (h : k < xs.length) (h0 : okS xs[k] = true) (h1 : ¬ 1000 < lcmS d xs[k]) : spG d (xs.drop k) = spG (lcmS d xs[k]) (xs.drop (k + 1)) := by
  rw [List.drop_eq_getElem_cons h, spG, if_pos h0, if_neg h1]
theorem spG_none {d : Int} {xs : List (Int × Int)} {k : Nat} (h : k < xs.length) (h1 : okS xs[k] = true → 1000 < lcmS d xs[k]) : spG d (xs.drop k) = none := by
  rw [List.drop_eq_getElem_cons h, spG]
  split
  · rename_i h0; rw [if_pos (h1 h0)]
  · rfl
theorem spG_end {d : Int} {xs : List (Int × Int)} {k : Nat} (h : ¬ k < xs.length) : spG d (xs.drop k) = some d := by
  rw [List.drop_eq_nil_of_le (by omega), spG]
theorem okS_t {r : Int × Int} (h : okS r = true) : isVR (r.1, r.2) = true ∧ 0 ≤ r.1 ∧ r.1 ≤ 1000000000 ∧ 1 ≤ r.2 ∧ r.2 ≤ 1000000000 := by
  unfold okS at h
  rw [Bool.and_eq_true] at h
  obtain ⟨h1, h2⟩ := h
  obtain ⟨p1, p2, p3, p4, _⟩ := isVR_t h1
  exact ⟨h1, by simpa using h2, p4, p1, p2⟩
theorem tdiv_small {d g : Int} (h0 : 0 ≤ d) (h1 : d ≤ 1000) (hg : 1 ≤ g) : 0 ≤ d.tdiv g ∧ d.tdiv g ≤ 1000 := by
  rw [Int.tdiv_eq_ediv_of_nonneg h0]
  refine ⟨Int.ediv_nonneg h0 (by omega), Int.le_trans (Int.ediv_le_self g h0) h1⟩
theorem mul_small {a b c e : Int} (h0 : 0 ≤ a) (h1 : a ≤ c) (h2 : 0 ≤ b) (h3 : b ≤ e) : 0 ≤ a * b ∧ a * b ≤ c * e :=
  ⟨Int.mul_nonneg h0 h2, Int.mul_le_mul h1 h3 h2 (Int.le_trans h0 h1)⟩
/-- the values that the walk reckons with -/
theorem lcmS_facts {d : Int} {r : Int × Int} (h0 : 0 ≤ d) (h1 : d ≤ 1000) (h2 : 1 ≤ r.2) (h3 : r.2 ≤ 1000000000) :
    1 ≤ (Int.gcd d r.2 : Int) ∧ 0 ≤ lcmS d r ∧ lcmS d r ≤ 1000000000000 ∧ wrap64 (d / (Int.gcd d r.2 : Int) * r.2) = lcmS d r := by
  have hg : 1 ≤ (Int.gcd d r.2 : Int) := gcd_pos' (by omega)
  obtain ⟨a, b⟩ := tdiv_small h0 h1 hg
  obtain ⟨c, e⟩ := mul_small a b (by omega : (0 : Int) ≤ r.2) h3
  refine ⟨hg, c, e, ?_⟩
  have h6 : wrap64 (lcmS d r) = lcmS d r := by
    have hc : 0 ≤ lcmS d r := c
    have he : lcmS d r ≤ 1000 * 1000000000 := e
    unfold wrap64
    omega
  rw [← Int.tdiv_eq_ediv_of_nonneg h0]
  exact h6
theorem sc_facts {d : Int} {r : Int × Int} (h0 : 0 ≤ d) (h1 : d ≤ 1000) (h2 : 1 ≤ r.2) (h4 : 0 ≤ r.1) (h5 : r.1 ≤ 1000000000) :
    IntKind.i64.wrap (r.1 * IntKind.i64.wrap (d.tdiv r.2)) = r.1 * d.tdiv r.2 := by
  obtain ⟨a, b⟩ := tdiv_small h0 h1 h2
  obtain ⟨c, e⟩ := mul_small h4 h5 a b
  have h5 : IntKind.i64.wrap (d.tdiv r.2) = d.tdiv r.2 := by rw [IntKind.wrap_i64]; omega
  rw [h5]
  obtain ⟨q, hq⟩ : ∃ q, r.1 * d.tdiv r.2 = q := ⟨_, rfl⟩
  rw [hq] at c e ⊢
  rw [IntKind.wrap_i64]; omega
/-- what both hand back -/
def ScRes (xs : List (Int × Int)) (w : World) (e : Ending) (w' : World) : Prop := ∃ v F, e = .returned (.tuple #[v, .int .i64 (scaleR xs).2]) ∧ (∃ y, w' = ext w y) ∧ SV 3 1 sI w' v (scaleR xs).1 F ∧ ∀ b ∈ F, w.heap.size ≤ b

set_option maxHeartbeats 2000000 in
theorem ScaleToIntegers_any {A : Option Addr} {c : Nat} {xs : List (Int × Int)} {w : World} (hx : xs.length ≤ 1000000000) (h1 : RR w A xs) :
    Calls Try.prog 7 #[.slice A xs.length c] w (ScRes xs w) := by
  go_enter Try.func7, Try.ntmps7
  go_wp2
  go_loopw [14] (fun i wr => ∃ (k : Nat), i = .int .i64 k ∧ k ≤ xs.length ∧ (∃ y, wr = ext w y) ∧ ∀ j (h : j < xs.length), j < k → okS xs[j] = true) (fun i _ => xs.length - (intOf i).toNat)
  case atStart => exact ⟨0, rfl, by omega, refl_ext w, by simp⟩
  case round =>
    obtain ⟨k, rfl, hk, hy, hj⟩ := hrel
    have Hj := Lib.hid hj
    clear hj
    have h1' := h1.toExt hy
    by_cases hlt : k < xs.length
    · obtain ⟨b, o, rfl, hb, hc, hd⟩ := h1'.atR hlt
      by_cases hok : okS xs[k] = true
      · obtain ⟨q1, q2, q3, q4, q5⟩ := okS_t hok
        have HJ := Lib.hid (show ∀ j (h : j < xs.length), j < k + 1 → okS xs[j] = true by
          intro j h hlt
          by_cases e : j = k
          · subst e; exact hok
          · exact Hj.out j h (by omega))
        have HQ := Lib.hid q1
        clear hok q1
        go_wp2_with (go_at_call 21; refine IsValidRational_any.mono ?_; rintro e w1 ⟨rfl, y1, rfl⟩; rw [HQ.out])
        exact ⟨⟨k + 1, by go_num, by omega, (by refine Chg.isExt (F := []) ?_ (refl_ext _) (by simp); repeat (with_reducible (first | exact Chg.refl _ _ | exact Nat.le_refl _ | exact Chg.ofExt (by assumption) | refine Chg.trans0 ?_ (by assumption) | refine Chg.extS ?_ _ | refine Chg.alloc ?_ _ | refine Chg.drew ?_ | refine Chg.setCellE ?_ ?_ _ | refine le_addk ?_ _ | refine le_ext ?_ | refine le_alloc ?_ _ | refine le_setC ?_ _ _ | refine le_drew ?_ | assumption | (refine Nat.le_of_lt ?_; omega) | omega))), HJ.out⟩, by simp [intOf]; omega⟩
      · have HE := Lib.hid (show scaleR xs = ([], 0) by
          unfold scaleR
          rw [if_neg]
          intro h
          exact hok (List.all_eq_true.1 h _ (List.getElem_mem hlt)))
        by_cases hv : isVR (xs[k].1, xs[k].2) = true
        · have hneg : xs[k].1 < 0 := by
            apply Classical.byContradiction
            intro h
            apply hok
            unfold okS
            rw [Bool.and_eq_true]
            exact ⟨hv, by simp; omega⟩
          have HQ := Lib.hid hv
          clear hok hv
          go_wp2_with (go_at_call 21; refine IsValidRational_any.mono ?_; rintro e w1 ⟨rfl, y1, rfl⟩; rw [HQ.out])
          go_ret2
          exact ⟨_, [], by rw [HE.out]; rfl, (by refine Chg.isExt (F := []) ?_ (refl_ext _) (by simp); repeat (with_reducible (first | exact Chg.refl _ _ | exact Nat.le_refl _ | exact Chg.ofExt (by assumption) | refine Chg.trans0 ?_ (by assumption) | refine Chg.extS ?_ _ | refine Chg.alloc ?_ _ | refine Chg.drew ?_ | refine Chg.setCellE ?_ ?_ _ | refine le_addk ?_ _ | refine le_ext ?_ | refine le_alloc ?_ _ | refine le_setC ?_ _ _ | refine le_drew ?_ | assumption | (refine Nat.le_of_lt ?_; omega) | omega))), by rw [HE.out]; exact SV.nil, by simp⟩
        · have hv : isVR (xs[k].1, xs[k].2) = false := by simpa using hv
          have HQ := Lib.hid hv
          clear hok hv
          go_wp2_with (go_at_call 21; refine IsValidRational_any.mono ?_; rintro e w1 ⟨rfl, y1, rfl⟩; rw [HQ.out])
          go_ret2
          exact ⟨_, [], by rw [HE.out]; rfl, (by refine Chg.isExt (F := []) ?_ (refl_ext _) (by simp); repeat (with_reducible (first | exact Chg.refl _ _ | exact Nat.le_refl _ | exact Chg.ofExt (by assumption) | refine Chg.trans0 ?_ (by assumption) | refine Chg.extS ?_ _ | refine Chg.alloc ?_ _ | refine Chg.drew ?_ | refine Chg.setCellE ?_ ?_ _ | refine le_addk ?_ _ | refine le_ext ?_ | refine le_alloc ?_ _ | refine le_setC ?_ _ _ | refine le_drew ?_ | assumption | (refine Nat.le_of_lt ?_; omega) | omega))), by rw [HE.out]; exact SV.nil, by simp⟩
    · have HA := Lib.hid (show xs.all okS = true by
        rw [List.all_eq_true]
        intro r hr
        obtain ⟨j, hj, rfl⟩ := List.getElem_of_mem hr
        exact Hj.out j hj (by omega))
      have HX := Lib.hid (show ∀ j (h : j < xs.length), okS xs[j] = true from fun j h => Hj.out j h (by omega))
      clear Hj
      go_wp2
      go_loopw [4, 29] (fun v i ws => ∃ (k : Nat) (d : Int), v = .int .i64 d ∧ i = .int .i64 k ∧ k ≤ xs.length ∧ (∃ y, ws = ext w y) ∧ 0 ≤ d ∧ d ≤ 1000 ∧ scG d (xs.drop k) = scG 1 xs) (fun _ i _ => xs.length - (intOf i).toNat)
      case atStart => exact ⟨0, 1, rfl, rfl, by omega, hy, by omega, by omega, by simp⟩
      case round =>
        obtain ⟨k, d, rfl, rfl, hk, hy, hd0, hd1, hj⟩ := hrel
        have Hj := Lib.hid hj
        clear hj hlt
        have h1' := h1.toExt hy
        by_cases hlt : k < xs.length
        · obtain ⟨b, o, rfl, hb, hc, hd⟩ := h1'.atR hlt
          obtain ⟨q1, q2, q3, q4, q5⟩ := okS_t (HX.out k hlt)
          obtain ⟨g1, g2, g3, g4⟩ := lcmS_facts (r := xs[k]) hd0 hd1 q4 q5
          have hn : 1000 < lcmS d xs[k] → scG d (xs.drop k) = none := scG_none hlt
          have hs : ¬ 1000 < lcmS d xs[k] → scG d (xs.drop k) = scG (lcmS d xs[k]) (xs.drop (k + 1)) := scG_step hlt
          obtain ⟨d', hd'⟩ : ∃ d', lcmS d xs[k] = d' := ⟨_, rfl⟩
          rw [hd'] at g2 g3 g4 hn hs
          have HG := Lib.hid g4
          have HN := Lib.hid hn
          have HS := Lib.hid hs
          clear g4 q1 hd' hn hs
          go_wp2_with fail
          refine wp_region_ext (by kernel_rfl) (by kernel_rfl) ?_
          repeat (go_big_quiet_step ((go_at_call 22; exact quietE (gcd_any hd0 (by omega) (by omega) (by omega)))))
          refine wpQuiet_nil ?_
          rintro _ ⟨z, rfl⟩
          rw [HG.out]
          by_cases hbig : 1000 < d'
          · have HE := Lib.hid (show scaleR xs = ([], 0) by
              unfold scaleR
              rw [if_pos HA.out, ← Hj.out, HN.out hbig])
            go_wp2
            go_ret2
            exact ⟨_, [], by rw [HE.out]; rfl, (by refine Chg.isExt (F := []) ?_ (refl_ext _) (by simp); repeat (with_reducible (first | exact Chg.refl _ _ | exact Nat.le_refl _ | exact Chg.ofExt (by assumption) | refine Chg.trans0 ?_ (by assumption) | refine Chg.extS ?_ _ | refine Chg.alloc ?_ _ | refine Chg.drew ?_ | refine Chg.setCellE ?_ ?_ _ | refine le_addk ?_ _ | refine le_ext ?_ | refine le_alloc ?_ _ | refine le_setC ?_ _ _ | refine le_drew ?_ | assumption | (refine Nat.le_of_lt ?_; omega) | omega))), by rw [HE.out]; exact SV.nil, by simp⟩
          · have HE := Lib.hid ((HS.out (by omega)).symm.trans Hj.out)
            go_wp2
            exact ⟨⟨k + 1, _, rfl, by go_num, by omega, (by refine Chg.isExt (F := []) ?_ (refl_ext _) (by simp); repeat (with_reducible (first | exact Chg.refl _ _ | exact Nat.le_refl _ | exact Chg.ofExt (by assumption) | refine Chg.trans0 ?_ (by assumption) | refine Chg.extS ?_ _ | refine Chg.alloc ?_ _ | refine Chg.drew ?_ | refine Chg.setCellE ?_ ?_ _ | refine le_addk ?_ _ | refine le_ext ?_ | refine le_alloc ?_ _ | refine le_setC ?_ _ _ | refine le_drew ?_ | assumption | (refine Nat.le_of_lt ?_; omega) | omega))), by omega, by omega, HE.out⟩, by simp [intOf]; omega⟩
        · have HE := Lib.hid (show scaleR xs = (xs.map fun r => r.1 * d.tdiv r.2, d) by
            unfold scaleR
            rw [if_pos HA.out, ← Hj.out, scG_end hlt])
          go_wp2
          clear hlt Hj
          go_loopw [9, 47] (fun v i vr => ∃ (k : Nat) (F : List Nat), i = .int .i64 k ∧ k ≤ xs.length ∧ SV 3 1 sI vr v ((xs.take k).map fun r => r.1 * d.tdiv r.2) F ∧ (∀ b ∈ F, w.heap.size ≤ b) ∧ ∃ y, vr = ext w y) (fun _ i _ => xs.length - (intOf i).toNat)
          case atStart => exact ⟨0, [], rfl, by omega, SV.nil, by simp, hy⟩
          case round =>
            obtain ⟨k, F, rfl, hk, hS, hF, hy⟩ := hrel
            have HF := Lib.hid hF
            clear hF
            have h1' := h1.toExt hy
            by_cases hlt : k < xs.length
            · obtain ⟨b, o, rfl, hb, hc, hd⟩ := h1'.atR hlt
              obtain ⟨q1, q2, q3, q4, q5⟩ := okS_t (HX.out k hlt)
              have HG := Lib.hid (sc_facts (r := xs[k]) hd0 hd1 q4 q2 q3)
              have HS := Lib.hid (show ((xs.take k).map fun r => r.1 * d.tdiv r.2) ++ [xs[k].1 * d.tdiv xs[k].2] = (xs.take (k + 1)).map fun r => r.1 * d.tdiv r.2 by rw [List.take_succ_eq_append_getElem hlt, List.map_append]; rfl)
              have hlk : ((xs.take k).map fun r => r.1 * d.tdiv r.2).length + 1 ≤ 2000000000 := by simp; omega
              clear q1
              go_wp2_with fail
              have hz : ¬ xs[k].2 = 0 := by omega
              have hS0 := hS.toExt (trans_ext (alloc_ext _ _) (drew_ext (wr.alloc (.cells #[.int .i64 xs[k].1, .int .i64 xs[k].2] 31))))
              have hnF : wr.heap.size ∉ F := fun h => by have := hS.lt _ h; omega
              go_region_held3 (fun w' => w'.cell? ⟨wr.heap.size, 0, none⟩ = some (.int .i64 xs[k].1) ∧ w'.cell? ⟨wr.heap.size, 1, none⟩ = some (.int .i64 xs[k].2)) (first | go_keep | (refine ⟨?_, ?_⟩ <;> (rw [hC'.cell hnF (by simp)]; go_simp)))
                ((refine step_app1 (E := sI) (d := xs[k].1 * d.tdiv xs[k].2) (by rfl) _ _ _ (by rfl) tI (by rfl) (by rfl) (by rfl) (by simp) (fun _ => ⟨by rw [HG.out], rfl⟩) (by rfl) (by simp [Value.oneCell']) hS0 hlk (by omega) ?_; intro v' w' F' hS' hC' hF'))
              go_wp2
              exact ⟨⟨k + 1, F', by go_num, by omega, by rw [← HS.out]; exact hS', newer HF.out (size_of_ext (by refine Chg.isExt (F := []) ?_ (refl_ext _) (by simp); repeat (with_reducible (first | exact Chg.refl _ _ | exact Nat.le_refl _ | exact Chg.ofExt (by assumption) | refine Chg.trans0 ?_ (by assumption) | refine Chg.extS ?_ _ | refine Chg.alloc ?_ _ | refine Chg.drew ?_ | refine Chg.setCellE ?_ ?_ _ | refine le_addk ?_ _ | refine le_ext ?_ | refine le_alloc ?_ _ | refine le_setC ?_ _ _ | refine le_drew ?_ | assumption | (refine Nat.le_of_lt ?_; omega) | omega)))) hF', hC'.isExt (by refine Chg.isExt (F := []) ?_ (refl_ext _) (by simp); repeat (with_reducible (first | exact Chg.refl _ _ | exact Nat.le_refl _ | exact Chg.ofExt (by assumption) | refine Chg.trans0 ?_ (by assumption) | refine Chg.extS ?_ _ | refine Chg.alloc ?_ _ | refine Chg.drew ?_ | refine Chg.setCellE ?_ ?_ _ | refine le_addk ?_ _ | refine le_ext ?_ | refine le_alloc ?_ _ | refine le_setC ?_ _ _ | refine le_drew ?_ | assumption | (refine Nat.le_of_lt ?_; omega) | omega))) HF.out⟩, by simp [intOf]; omega⟩
            · go_wp2
              go_ret2
              rw [List.take_of_length_le (by omega)] at hS
              exact ⟨_, F, by rw [HE.out]; rfl, hy, by rw [HE.out]; exact hS, HF.out⟩
set_option maxHeartbeats 2000000 in
theorem specScaleToIntegers_any {A : Option Addr} {c : Nat} {xs : List (Int × Int)} {w : World} (hx : xs.length ≤ 1000000000) (h1 : RR w A xs) :
    Calls Try.prog 8 #[.slice A xs.length c] w (ScRes xs w) := by
  go_enter Try.func8, Try.ntmps8
  go_wp2
  go_loopw [4, 5] (fun v i wr => ∃ (k : Nat) (d : Int), v = .int .i64 d ∧ i = .int .i64 k ∧ k ≤ xs.length ∧ (∃ y, wr = ext w y) ∧ 0 ≤ d ∧ d ≤ 1000 ∧ (∀ j (h : j < xs.length), j < k → okS xs[j] = true) ∧ spG d (xs.drop k) = spG 1 xs) (fun _ i _ => xs.length - (intOf i).toNat)
  case atStart => exact ⟨0, 1, rfl, rfl, by omega, refl_ext w, by omega, by omega, by simp, by simp⟩
  case round =>
    obtain ⟨k, d, rfl, rfl, hk, ⟨y, rfl⟩, hd0, hd1, hj, hg⟩ := hrel
    have Hj := Lib.hid hj
    have Hg := Lib.hid hg
    clear hj hg
    by_cases hlt : k < xs.length
    · obtain ⟨b, o, rfl, hb0, hc0, hd0'⟩ := h1.atR hlt
      have hb := lt_ext (x := y) hb0
      have hc : (ext w y).cell? ⟨b, o + k * 2, none⟩ = some (.int .i64 xs[k].1) := by rw [cell_ext hb0]; exact hc0
      have hd : (ext w y).cell? ⟨b, o + k * 2 + 1, none⟩ = some (.int .i64 xs[k].2) := by rw [cell_ext hb0]; exact hd0'
      clear hc0 hd0'
      by_cases hok : okS xs[k] = true
      · obtain ⟨q1, q2, q3, q4, q5⟩ := okS_t hok
        obtain ⟨g1, g2, g3, g4⟩ := lcmS_facts (r := xs[k]) hd0 hd1 q4 q5
        have HJ := Lib.hid (show ∀ j (h : j < xs.length), j < k + 1 → okS xs[j] = true by
          intro j h hlt
          by_cases e : j = k
          · subst e; exact hok
          · exact Hj.out j h (by omega))
        have hn : 1000 < lcmS d xs[k] → spG d (xs.drop k) = none := fun h => spG_none hlt fun _ => h
        have hs : ¬ 1000 < lcmS d xs[k] → spG d (xs.drop k) = spG (lcmS d xs[k]) (xs.drop (k + 1)) := spG_step hlt hok
        obtain ⟨d', hd'⟩ : ∃ d', lcmS d xs[k] = d' := ⟨_, rfl⟩
        rw [hd'] at g2 g3 g4 hn hs
        have HG := Lib.hid g4
        have HN := Lib.hid hn
        have HS := Lib.hid hs
        have HQ := Lib.hid q1
        clear hok q1 g4 hd' hn hs
        go_wp2_with (go_at_call 23; refine specIsValidRational_any.mono ?_; rintro e w1 ⟨rfl, y1, rfl⟩; rw [HQ.out])
        refine wp_region_ext (by kernel_rfl) (by kernel_rfl) ?_
        repeat (go_big_quiet_step ((go_at_call 24; exact quietS (l2Gcd_any hd0 (by omega) (by omega) (by omega)))))
        refine wpQuiet_nil ?_
        rintro _ ⟨z, rfl⟩
        rw [HG.out]
        by_cases hbig : 1000 < d'
        · have HE := Lib.hid (show scaleR xs = ([], 0) by rw [scaleR_sp, ← Hg.out, HN.out hbig])
          go_wp2
          go_ret2
          exact ⟨_, _, by rw [HE.out]; rfl, (by refine Chg.isExt (F := []) ?_ (refl_ext _) (by simp); repeat (with_reducible (first | exact Chg.refl _ _ | exact Nat.le_refl _ | exact Chg.ofExt (by assumption) | refine Chg.trans0 ?_ (by assumption) | refine Chg.extS ?_ _ | refine Chg.alloc ?_ _ | refine Chg.drew ?_ | refine Chg.setCellE ?_ ?_ _ | refine le_addk ?_ _ | refine le_ext ?_ | refine le_alloc ?_ _ | refine le_setC ?_ _ _ | refine le_drew ?_ | assumption | (refine Nat.le_of_lt ?_; omega) | omega))), by rw [HE.out]; exact SV.empty _, by simpa using le_ext (le_ext size_ext)⟩
        · have HE := Lib.hid ((HS.out (by omega)).symm.trans Hg.out)
          go_wp2
          exact ⟨⟨k + 1, _, rfl, by go_num, by omega, (by refine Chg.isExt (F := []) ?_ (refl_ext _) (by simp); repeat (with_reducible (first | exact Chg.refl _ _ | exact Nat.le_refl _ | exact Chg.ofExt (by assumption) | refine Chg.trans0 ?_ (by assumption) | refine Chg.extS ?_ _ | refine Chg.alloc ?_ _ | refine Chg.drew ?_ | refine Chg.setCellE ?_ ?_ _ | refine le_addk ?_ _ | refine le_ext ?_ | refine le_alloc ?_ _ | refine le_setC ?_ _ _ | refine le_drew ?_ | assumption | (refine Nat.le_of_lt ?_; omega) | omega))), by omega, by omega, HJ.out, HE.out⟩, by simp [intOf]; omega⟩
      · have HE := Lib.hid (show scaleR xs = ([], 0) by rw [scaleR_sp, ← Hg.out, spG_none hlt fun h => absurd h hok])
        by_cases hv : isVR (xs[k].1, xs[k].2) = true
        · have hneg : xs[k].1 < 0 := by
            apply Classical.byContradiction
            intro h
            apply hok
            unfold okS
            rw [Bool.and_eq_true]
            exact ⟨hv, by simp; omega⟩
          have HQ := Lib.hid hv
          clear hok hv
          go_wp2_with (go_at_call 23; refine specIsValidRational_any.mono ?_; rintro e w1 ⟨rfl, y1, rfl⟩; rw [HQ.out])
          go_ret2
          exact ⟨_, _, by rw [HE.out]; rfl, (by refine Chg.isExt (F := []) ?_ (refl_ext _) (by simp); repeat (with_reducible (first | exact Chg.refl _ _ | exact Nat.le_refl _ | exact Chg.ofExt (by assumption) | refine Chg.trans0 ?_ (by assumption) | refine Chg.extS ?_ _ | refine Chg.alloc ?_ _ | refine Chg.drew ?_ | refine Chg.setCellE ?_ ?_ _ | refine le_addk ?_ _ | refine le_ext ?_ | refine le_alloc ?_ _ | refine le_setC ?_ _ _ | refine le_drew ?_ | assumption | (refine Nat.le_of_lt ?_; omega) | omega))), by rw [HE.out]; exact SV.empty _, by simpa using le_ext size_ext⟩
        · have hv : isVR (xs[k].1, xs[k].2) = false := by simpa using hv
          have HQ := Lib.hid hv
          clear hok hv
          go_wp2_with (go_at_call 23; refine specIsValidRational_any.mono ?_; rintro e w1 ⟨rfl, y1, rfl⟩; rw [HQ.out])
          go_ret2
          exact ⟨_, _, by rw [HE.out]; rfl, (by refine Chg.isExt (F := []) ?_ (refl_ext _) (by simp); repeat (with_reducible (first | exact Chg.refl _ _ | exact Nat.le_refl _ | exact Chg.ofExt (by assumption) | refine Chg.trans0 ?_ (by assumption) | refine Chg.extS ?_ _ | refine Chg.alloc ?_ _ | refine Chg.drew ?_ | refine Chg.setCellE ?_ ?_ _ | refine le_addk ?_ _ | refine le_ext ?_ | refine le_alloc ?_ _ | refine le_setC ?_ _ _ | refine le_drew ?_ | assumption | (refine Nat.le_of_lt ?_; omega) | omega))), by rw [HE.out]; exact SV.empty _, by simpa using le_ext size_ext⟩
    · have HX := Lib.hid (show ∀ j (h : j < xs.length), okS xs[j] = true from fun j h => Hj.out j h (by omega))
      have HE := Lib.hid (show scaleR xs = (xs.map fun r => r.1 * d.tdiv r.2, d) by rw [scaleR_sp, ← Hg.out, spG_end hlt])
      clear Hj
      go_wp2
      clear Hg hlt
      go_loopw [6, 7] (fun v i vr => ∃ (k : Nat) (F : List Nat), i = .int .i64 k ∧ k ≤ xs.length ∧ SV 3 1 sI vr v ((xs.take k).map fun r => r.1 * d.tdiv r.2) F ∧ (∀ b ∈ F, w.heap.size ≤ b) ∧ ∃ y, vr = ext w y) (fun _ i _ => xs.length - (intOf i).toNat)
      case atStart => exact ⟨0, _, rfl, by omega, SV.empty _, by simpa using size_ext, (by refine Chg.isExt (F := []) ?_ (refl_ext _) (by simp); repeat (with_reducible (first | exact Chg.refl _ _ | exact Nat.le_refl _ | exact Chg.ofExt (by assumption) | refine Chg.trans0 ?_ (by assumption) | refine Chg.extS ?_ _ | refine Chg.alloc ?_ _ | refine Chg.drew ?_ | refine Chg.setCellE ?_ ?_ _ | refine le_addk ?_ _ | refine le_ext ?_ | refine le_alloc ?_ _ | refine le_setC ?_ _ _ | refine le_drew ?_ | assumption | (refine Nat.le_of_lt ?_; omega) | omega)))⟩
      case round =>
        obtain ⟨k, F, rfl, hk, hS, hF, ⟨y, rfl⟩⟩ := hrel
        have HF := Lib.hid hF
        clear hF
        by_cases hlt : k < xs.length
        · obtain ⟨b, o, rfl, hb0, hc0, hd0'⟩ := h1.atR hlt
          have hb := lt_ext (x := y) hb0
          have hc : (ext w y).cell? ⟨b, o + k * 2, none⟩ = some (.int .i64 xs[k].1) := by rw [cell_ext hb0]; exact hc0
          have hd : (ext w y).cell? ⟨b, o + k * 2 + 1, none⟩ = some (.int .i64 xs[k].2) := by rw [cell_ext hb0]; exact hd0'
          clear hc0 hd0'
          obtain ⟨q1, q2, q3, q4, q5⟩ := okS_t (HX.out k hlt)
          have HG := Lib.hid (sc_facts (r := xs[k]) hd0 hd1 q4 q2 q3)
          have HS := Lib.hid (show ((xs.take k).map fun r => r.1 * d.tdiv r.2) ++ [xs[k].1 * d.tdiv xs[k].2] = (xs.take (k + 1)).map fun r => r.1 * d.tdiv r.2 by rw [List.take_succ_eq_append_getElem hlt, List.map_append]; rfl)
          have hlk : ((xs.take k).map fun r => r.1 * d.tdiv r.2).length + 1 ≤ 2000000000 := by simp; omega
          have hz : ¬ xs[k].2 = 0 := by omega
          have hnF : b ∉ F := fun h => by have := HF.out _ h; omega
          have hS0 := hS.toExt (drew_ext (ext w y))
          clear q1
          go_wp2_with fail
          go_region_held3 (fun w' => w'.cell? ⟨b, o + k * 2, none⟩ = some (.int .i64 xs[k].1) ∧ w'.cell? ⟨b, o + k * 2 + 1, none⟩ = some (.int .i64 xs[k].2)) (first | go_keep | (refine ⟨?_, ?_⟩ <;> (rw [hC'.cell hnF (by go_simp)]; go_simp)))
            ((refine step_app1 (E := sI) (d := xs[k].1 * d.tdiv xs[k].2) (by rfl) _ _ _ (by rfl) tI (by rfl) (by rfl) (by rfl) (by simp) (fun _ => ⟨by rw [HG.out], rfl⟩) (by rfl) (by simp [Value.oneCell']) hS0 hlk (by omega) ?_; intro v' w' F' hS' hC' hF'))
          go_wp2
          exact ⟨⟨k + 1, F', by go_num, by omega, by rw [← HS.out]; exact hS', newer HF.out (size_of_ext (by refine Chg.isExt (F := []) ?_ (refl_ext _) (by simp); repeat (with_reducible (first | exact Chg.refl _ _ | exact Nat.le_refl _ | exact Chg.ofExt (by assumption) | refine Chg.trans0 ?_ (by assumption) | refine Chg.extS ?_ _ | refine Chg.alloc ?_ _ | refine Chg.drew ?_ | refine Chg.setCellE ?_ ?_ _ | refine le_addk ?_ _ | refine le_ext ?_ | refine le_alloc ?_ _ | refine le_setC ?_ _ _ | refine le_drew ?_ | assumption | (refine Nat.le_of_lt ?_; omega) | omega)))) hF', hC'.isExt (by refine Chg.isExt (F := []) ?_ (refl_ext _) (by simp); repeat (with_reducible (first | exact Chg.refl _ _ | exact Nat.le_refl _ | exact Chg.ofExt (by assumption) | refine Chg.trans0 ?_ (by assumption) | refine Chg.extS ?_ _ | refine Chg.alloc ?_ _ | refine Chg.drew ?_ | refine Chg.setCellE ?_ ?_ _ | refine le_addk ?_ _ | refine le_ext ?_ | refine le_alloc ?_ _ | refine le_setC ?_ _ _ | refine le_drew ?_ | assumption | (refine Nat.le_of_lt ?_; omega) | omega))) HF.out⟩, by simp [intOf]; omega⟩
        · go_wp2
          go_ret2
          rw [List.take_of_length_le (by omega)] at hS
          exact ⟨_, F, by rw [HE.out]; rfl, (by refine Chg.isExt (F := []) ?_ (refl_ext _) (by simp); repeat (with_reducible (first | exact Chg.refl _ _ | exact Nat.le_refl _ | exact Chg.ofExt (by assumption) | refine Chg.trans0 ?_ (by assumption) | refine Chg.extS ?_ _ | refine Chg.alloc ?_ _ | refine Chg.drew ?_ | refine Chg.setCellE ?_ ?_ _ | refine le_addk ?_ _ | refine le_ext ?_ | refine le_alloc ?_ _ | refine le_setC ?_ _ _ | refine le_drew ?_ | assumption | (refine Nat.le_of_lt ?_; omega) | omega))), by rw [HE.out]; exact hS, HF.out⟩
end Go.Proofs.Ytbaheampmiecmaa
