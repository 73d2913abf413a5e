/- The variables of two atoms; the program's way and the reference's. -/
import Derived.Test.YtoffbconbgipjaaAtom
import Derived.Test.YtoffbconbgipjaaApp
namespace Go.Proofs.Ytoffbconbgipjaa
open Go.RowKit

def comL (xs ys : List Int) : List Int := xs.filter fun x => decide (x ∈ ys)
theorem comL_take {xs ys : List Int} {k : Nat} (h : k < xs.length) : comL (xs.take (k + 1)) ys = comL (xs.take k) ys ++ (if decide (xs[k] ∈ ys) = true then [xs[k]] else []) := by
  unfold comL
  rw [List.take_succ_eq_append_getElem h, List.filter_append, List.filter_cons, List.filter_nil]
set_option maxHeartbeats 400000 in
theorem common_any {A A' : Option Addr} {c c' : Nat} {xs ys : List Int} {w : World} (hx : xs.length ≤ 1000000000) (h1 : RI w A xs) (hy : ys.length ≤ 1000000000) (h2 : RI w A' ys) :
    Calls Try.prog 55 #[.slice A xs.length c, .slice A' ys.length c'] w fun e w' => ∃ v F, e = .returned v ∧ (∃ y, w' = ext w y) ∧ SV 3 1 sI w' v (comL xs ys) F ∧ ∀ b ∈ F, w.heap.size ≤ b := by
  go_enter Try.func55, Try.ntmps55
  go_wp2
  go_loopw [5, 10] (fun v i wr => ∃ (k : Nat) (F : List Nat), i = .int .i64 k ∧ k ≤ xs.length ∧ SV 3 1 sI wr v (comL (xs.take k) ys) F ∧ (∀ b ∈ F, w.heap.size ≤ b) ∧ (∃ y, wr = ext w y)) (fun _ i _ => xs.length - (intOf i).toNat)
  case atStart => exact ⟨0, [], rfl, by omega, SV.nil, by simp, refl_ext w⟩
  case round =>
    obtain ⟨k, F, rfl, hk, hS, hF, hw⟩ := hrel
    have HF := Lib.hid hF
    clear hF
    by_cases hlt : k < xs.length
    · obtain ⟨b, o, rfl, hb, hc⟩ := (h1.toExt hw).atI hlt
      have hlk : (comL (xs.take k) ys).length + 1 ≤ 2000000000 := by
        have : (comL (xs.take k) ys).length ≤ k := Nat.le_trans (List.length_filter_le _ _) (by simp; omega)
        omega
      have ht := comL_take (ys := ys) hlt
      obtain ⟨t, hd⟩ : ∃ t, decide (xs[k] ∈ ys) = t := ⟨_, rfl⟩
      have Hd := Lib.hid hd
      rw [hd] at ht
      have Ht := Lib.hid ht
      clear hd ht
      cases t with
      | true =>
        go_wp2_with (first
          | (go_at_call 81; refine (hasInt_any hy (h2.toExt (by refine Chg.isExt (F := []) ?_ (refl_ext _) (by simp); repeat (with_reducible (first | exact Chg.refl _ _ | exact Nat.le_refl _ | exact Chg.ofExt (by assumption) | refine Chg.trans0 ?_ (by assumption) | refine Chg.extS ?_ _ | refine Chg.alloc ?_ _ | refine Chg.drew ?_ | refine Chg.setCellE ?_ ?_ _ | refine le_addk ?_ _ | refine le_ext ?_ | refine le_alloc ?_ _ | refine le_setC ?_ _ _ | refine le_drew ?_ | assumption | (refine Nat.le_of_lt ?_; omega) | omega))))).mono ?_; rintro e w1 ⟨rfl, hx1⟩; rw [Hd.out])
          | (at_builtin; refine wpList_app1 (E := sI) (d := xs[k]) rfl _ _ _ rfl tI rfl rfl rfl (by simp) (fun _ => ⟨rfl, rfl⟩) rfl (by simp [Value.oneCell']) (hS.toExt (by refine Chg.isExt (F := []) ?_ (refl_ext _) (by simp); repeat (with_reducible (first | exact Chg.refl _ _ | exact Nat.le_refl _ | exact Chg.ofExt (by assumption) | refine Chg.trans0 ?_ (by assumption) | refine Chg.extS ?_ _ | refine Chg.alloc ?_ _ | refine Chg.drew ?_ | refine Chg.setCellE ?_ ?_ _ | refine le_addk ?_ _ | refine le_ext ?_ | refine le_alloc ?_ _ | refine le_setC ?_ _ _ | refine le_drew ?_ | assumption | (refine Nat.le_of_lt ?_; omega) | omega)))) hlk (by omega) ?_; intro v' w' F' hS' hC' hF'))
        exact ⟨⟨k + 1, F', by go_num, by omega, by rw [Ht.out]; exact hS', newer HF.out (size_of_ext (by refine Chg.isExt (F := []) ?_ (refl_ext _) (by simp); repeat (with_reducible (first | exact Chg.refl _ _ | exact Nat.le_refl _ | exact Chg.ofExt (by assumption) | refine Chg.trans0 ?_ (by assumption) | refine Chg.extS ?_ _ | refine Chg.alloc ?_ _ | refine Chg.drew ?_ | refine Chg.setCellE ?_ ?_ _ | refine le_addk ?_ _ | refine le_ext ?_ | refine le_alloc ?_ _ | refine le_setC ?_ _ _ | refine le_drew ?_ | assumption | (refine Nat.le_of_lt ?_; omega) | omega)))) hF', hC'.isExt (by refine Chg.isExt (F := []) ?_ (refl_ext _) (by simp); repeat (with_reducible (first | exact Chg.refl _ _ | exact Nat.le_refl _ | exact Chg.ofExt (by assumption) | refine Chg.trans0 ?_ (by assumption) | refine Chg.extS ?_ _ | refine Chg.alloc ?_ _ | refine Chg.drew ?_ | refine Chg.setCellE ?_ ?_ _ | refine le_addk ?_ _ | refine le_ext ?_ | refine le_alloc ?_ _ | refine le_setC ?_ _ _ | refine le_drew ?_ | assumption | (refine Nat.le_of_lt ?_; omega) | omega))) HF.out⟩, by simp [intOf]; omega⟩
      | false =>
        go_wp2_with (first
          | (go_at_call 81; refine (hasInt_any hy (h2.toExt (by refine Chg.isExt (F := []) ?_ (refl_ext _) (by simp); repeat (with_reducible (first | exact Chg.refl _ _ | exact Nat.le_refl _ | exact Chg.ofExt (by assumption) | refine Chg.trans0 ?_ (by assumption) | refine Chg.extS ?_ _ | refine Chg.alloc ?_ _ | refine Chg.drew ?_ | refine Chg.setCellE ?_ ?_ _ | refine le_addk ?_ _ | refine le_ext ?_ | refine le_alloc ?_ _ | refine le_setC ?_ _ _ | refine le_drew ?_ | assumption | (refine Nat.le_of_lt ?_; omega) | omega))))).mono ?_; rintro e w1 ⟨rfl, hx1⟩; rw [Hd.out]))
        exact ⟨⟨k + 1, F, by go_num, by omega, by rw [Ht.out]; simpa using hS.toExt hx1, HF.out, (by refine Chg.isExt (F := []) ?_ (refl_ext _) (by simp); repeat (with_reducible (first | exact Chg.refl _ _ | exact Nat.le_refl _ | exact Chg.ofExt (by assumption) | refine Chg.trans0 ?_ (by assumption) | refine Chg.extS ?_ _ | refine Chg.alloc ?_ _ | refine Chg.drew ?_ | refine Chg.setCellE ?_ ?_ _ | refine le_addk ?_ _ | refine le_ext ?_ | refine le_alloc ?_ _ | refine le_setC ?_ _ _ | refine le_drew ?_ | assumption | (refine Nat.le_of_lt ?_; omega) | omega)))⟩, by simp [intOf]; omega⟩
    · rw [List.take_of_length_le (by omega)] at hS
      go_wp2
      go_ret
      exact ⟨_, F, rfl, hw, hS, HF.out⟩
def cvars : Nat → Nat → List Int → List Int → List Int
  | 0, _, _, _ => []
  | f + 1, k, xs, ys => if decide ((k : Int) ∈ xs) = true ∧ decide ((k : Int) ∈ ys) = true then (k : Int) :: cvars f (k + 1) xs ys else cvars f (k + 1) xs ys
theorem mem_avars : ∀ (f k : Nat) (xs : List Int) (n : Int), n ∈ avars f k xs ↔ (k : Int) ≤ n ∧ n < k + f ∧ n ∈ xs
  | 0, k, xs, n => by simp [avars]; omega
  | f + 1, k, xs, n => by
    have ih := mem_avars f (k + 1) xs n
    unfold avars
    split
    · rename_i h
      rw [List.mem_cons, ih]
      constructor
      · rintro (rfl | ⟨h1, h2, h3⟩)
        · exact ⟨by omega, by omega, h⟩
        · exact ⟨by omega, by omega, h3⟩
      · rintro ⟨h1, h2, h3⟩
        by_cases e : n = k
        · exact .inl e
        · exact .inr ⟨by omega, by omega, h3⟩
    · rename_i h
      rw [ih]
      constructor
      · rintro ⟨h1, h2, h3⟩
        exact ⟨by omega, by omega, h3⟩
      · rintro ⟨h1, h2, h3⟩
        refine ⟨?_, by omega, h3⟩
        have : n ≠ k := by rintro rfl; exact h h3
        omega
theorem com_avars : ∀ (f k : Nat) (xs ys zs : List Int), (∀ n : Int, (k : Int) ≤ n → n < k + f → (n ∈ zs ↔ n ∈ ys)) → comL (avars f k xs) zs = cvars f k xs ys
  | 0, _, _, _, _, _ => rfl
  | f + 1, k, xs, ys, zs, h => by
    have ih := com_avars f (k + 1) xs ys zs fun n h1 h2 => h n (by omega) (by omega)
    have hk := h k (by omega) (by omega)
    unfold avars cvars
    by_cases h1 : (k : Int) ∈ xs
    · rw [if_pos h1]
      by_cases h2 : (k : Int) ∈ ys
      · rw [if_pos ⟨by simpa using h1, by simpa using h2⟩, ← ih]
        unfold comL
        rw [List.filter_cons, if_pos (by simpa using hk.2 h2)]
      · rw [if_neg (by simp [h2]), ← ih]
        unfold comL
        rw [List.filter_cons, if_neg (by simpa using fun h => h2 (hk.1 h))]
    · rw [if_neg h1, if_neg (by simp [h1]), ih]
theorem comV_eq (xs ys : List Int) : comL (avars 5 0 xs) (avars 5 0 ys) = cvars 5 0 xs ys := com_avars 5 0 xs ys _ fun n h1 h2 => by
  rw [mem_avars]
  constructor
  · exact fun h => h.2.2
  · exact fun h => ⟨h1, h2, h⟩
theorem cvars_length (xs ys : List Int) : (cvars 5 0 xs ys).length ≤ 5 := by
  rw [← comV_eq]
  exact Nat.le_trans (List.length_filter_le _ _) (avars_length 5 0 xs)
theorem cvars_step {k : Nat} {xs ys : List Int} (h : k < 5) : cvars (5 - k) k xs ys = if decide ((k : Int) ∈ xs) = true ∧ decide ((k : Int) ∈ ys) = true then (k : Int) :: cvars (5 - (k + 1)) (k + 1) xs ys else cvars (5 - (k + 1)) (k + 1) xs ys := by
  rw [show 5 - k = (5 - (k + 1)) + 1 by omega, cvars]
set_option maxHeartbeats 1000000 in
theorem CommonVariables_any {s s' : ByteArray} {A A' : Option Addr} {c c' : Nat} {xs ys : List Int} {w : World} (hx : xs.length ≤ 1000000000) (h1 : RI w A xs) (hy : ys.length ≤ 1000000000) (h2 : RI w A' ys) :
    Calls Try.prog 16 #[.agg #[.string s, .slice A xs.length c], .agg #[.string s', .slice A' ys.length c']] w fun e w' => ∃ v F, e = .returned v ∧ (∃ y, w' = ext w y) ∧ SV 3 1 sI w' v (cvars 5 0 xs ys) F ∧ ∀ b ∈ F, w.heap.size ≤ b := by
  have ha := avars_length 5 0 xs
  have hb := avars_length 5 0 ys
  have HC := Lib.hid (comV_eq xs ys)
  go_enter Try.func16, Try.ntmps16
  go_upto_region 1 with fail
  refine wp_name ?_
  intro W hW
  have xW : ∃ y, W = ext w y := by rw [hW.out]; exact (by refine Chg.isExt (F := []) ?_ (refl_ext _) (by simp); repeat (with_reducible (first | exact Chg.refl _ _ | exact Nat.le_refl _ | exact Chg.ofExt (by assumption) | refine Chg.trans0 ?_ (by assumption) | refine Chg.extS ?_ _ | refine Chg.alloc ?_ _ | refine Chg.drew ?_ | refine Chg.setCellE ?_ ?_ _ | refine le_addk ?_ _ | refine le_ext ?_ | refine le_alloc ?_ _ | refine le_setC ?_ _ _ | refine le_drew ?_ | assumption | (refine Nat.le_of_lt ?_; omega) | omega)))
  have BW0 : BoxAt W (w.heap.size) #[.string s, .slice A xs.length c] := by rw [hW.out]; refine ⟨?_, fun j => ?_, fun j => ?_⟩ <;> go_simp
  obtain ⟨lW0, bW0, fW0⟩ := BW0
  have cW0_0 : W.cell? ⟨w.heap.size, 0, none⟩ = some (.string s) := bW0 0
  have cW0_1 : W.cell? ⟨w.heap.size, 1, none⟩ = some (.slice A xs.length c) := bW0 1
  have BW1 : BoxAt W (w.heap.size + 1) #[.string s', .slice A' ys.length c'] := by rw [hW.out]; refine ⟨?_, fun j => ?_, fun j => ?_⟩ <;> go_simp
  obtain ⟨lW1, bW1, fW1⟩ := BW1
  have cW1_0 : W.cell? ⟨w.heap.size + 1, 0, none⟩ = some (.string s') := bW1 0
  have cW1_1 : W.cell? ⟨w.heap.size + 1, 1, none⟩ = some (.slice A' ys.length c') := bW1 1
  clear hW
  go_region_held3 (fun w' => (∀ a : Addr, a.block < W.heap.size → w'.cell? a = W.cell? a) ∧ ∃ y, w' = ext W y) (first | exact heldE (by refine Chg.isExt (F := []) ?_ (refl_ext _) (by simp); repeat (with_reducible (first | exact Chg.refl _ _ | exact Nat.le_refl _ | exact Chg.ofExt (by assumption) | refine Chg.trans0 ?_ (by assumption) | refine Chg.extS ?_ _ | refine Chg.alloc ?_ _ | refine Chg.drew ?_ | refine Chg.setCellE ?_ ?_ _ | refine le_addk ?_ _ | refine le_ext ?_ | refine le_alloc ?_ _ | refine le_setC ?_ _ _ | refine le_drew ?_ | assumption | (refine Nat.le_of_lt ?_; omega) | omega))))
    (first
      | (go_at_call_of 56 (A); refine (AtomVariables_any hx (h1.toExt (by refine Chg.isExt (F := []) ?_ (refl_ext _) (by simp); repeat (with_reducible (first | exact Chg.refl _ _ | exact Nat.le_refl _ | exact Chg.ofExt (by assumption) | refine Chg.trans0 ?_ (by assumption) | refine Chg.extS ?_ _ | refine Chg.alloc ?_ _ | refine Chg.drew ?_ | refine Chg.setCellE ?_ ?_ _ | refine le_addk ?_ _ | refine le_ext ?_ | refine le_alloc ?_ _ | refine le_setC ?_ _ _ | refine le_drew ?_ | assumption | (refine Nat.le_of_lt ?_; omega) | omega))))).mono ?_; rintro e wa ⟨va, Fa, rfl, hxa, hSa, hFa⟩; obtain ⟨Aa, ca, rfl, _, _, ra⟩ := hSa.view sI_v)
      | (go_at_call_of 56 (A'); refine (AtomVariables_any hy (h2.toExt (by refine Chg.isExt (F := []) ?_ (refl_ext _) (by simp); repeat (with_reducible (first | exact Chg.refl _ _ | exact Nat.le_refl _ | exact Chg.ofExt (by assumption) | refine Chg.trans0 ?_ (by assumption) | refine Chg.extS ?_ _ | refine Chg.alloc ?_ _ | refine Chg.drew ?_ | refine Chg.setCellE ?_ ?_ _ | refine le_addk ?_ _ | refine le_ext ?_ | refine le_alloc ?_ _ | refine le_setC ?_ _ _ | refine le_drew ?_ | assumption | (refine Nat.le_of_lt ?_; omega) | omega))))).mono ?_; rintro e wb ⟨vb, Fb, rfl, hxb, hSb, hFb⟩; obtain ⟨Ab, cb, rfl, _, _, rb⟩ := hSb.view sI_v)
      | (go_at_call 55; refine (common_any (by omega) (ra.toExt (by repeat (with_reducible (first | exact refl_ext _ | exact alloc_ext _ _ | exact drew_ext _ | assumption | refine trans_ext ?_ (drew_ext _) | refine trans_ext ?_ (alloc_ext _ _) | refine trans_ext ?_ (by assumption))))) (by omega) (rb.toExt (by repeat (with_reducible (first | exact refl_ext _ | exact alloc_ext _ _ | exact drew_ext _ | assumption | refine trans_ext ?_ (drew_ext _) | refine trans_ext ?_ (alloc_ext _ _) | refine trans_ext ?_ (by assumption)))))).mono ?_; rintro e wc ⟨vc, Fc, rfl, hxc, hSc, hFc⟩; rw [HC.out] at hSc))
  all_goals
    go_wp2
    go_ret
    exact ⟨_, Fc, rfl, (by refine Chg.isExt (F := []) ?_ (refl_ext _) (by simp); repeat (with_reducible (first | exact Chg.refl _ _ | exact Nat.le_refl _ | exact Chg.ofExt (by assumption) | refine Chg.trans0 ?_ (by assumption) | refine Chg.extS ?_ _ | refine Chg.alloc ?_ _ | refine Chg.drew ?_ | refine Chg.setCellE ?_ ?_ _ | refine le_addk ?_ _ | refine le_ext ?_ | refine le_alloc ?_ _ | refine le_setC ?_ _ _ | refine le_drew ?_ | assumption | (refine Nat.le_of_lt ?_; omega) | omega))), hSc, fun b hb => Nat.le_trans (size_of_ext (by refine Chg.isExt (F := []) ?_ (refl_ext _) (by simp); repeat (with_reducible (first | exact Chg.refl _ _ | exact Nat.le_refl _ | exact Chg.ofExt (by assumption) | refine Chg.trans0 ?_ (by assumption) | refine Chg.extS ?_ _ | refine Chg.alloc ?_ _ | refine Chg.drew ?_ | refine Chg.setCellE ?_ ?_ _ | refine le_addk ?_ _ | refine le_ext ?_ | refine le_alloc ?_ _ | refine le_setC ?_ _ _ | refine le_drew ?_ | assumption | (refine Nat.le_of_lt ?_; omega) | omega)))) (hFc b hb)⟩
set_option maxHeartbeats 1000000 in
theorem specCommonVariables_any {s s' : ByteArray} {A A' : Option Addr} {c c' : Nat} {xs ys : List Int} {w : World} (hx : xs.length ≤ 1000000000) (h1 : RI w A xs) (hy : ys.length ≤ 1000000000) (h2 : RI w A' ys) :
    Calls Try.prog 14 #[.agg #[.string s, .slice A xs.length c], .agg #[.string s', .slice A' ys.length c']] w fun e w' => ∃ v F, e = .returned v ∧ (∃ y, w' = ext w y) ∧ SV 3 1 sI w' v (cvars 5 0 xs ys) F ∧ ∀ b ∈ F, w.heap.size ≤ b := by
  go_enter Try.func14, Try.ntmps14
  go_upto_region 1 with fail
  refine wp_name ?_
  intro W hW
  have xW : ∃ y, W = ext w y := by rw [hW.out]; exact (by refine Chg.isExt (F := []) ?_ (refl_ext _) (by simp); repeat (with_reducible (first | exact Chg.refl _ _ | exact Nat.le_refl _ | exact Chg.ofExt (by assumption) | refine Chg.trans0 ?_ (by assumption) | refine Chg.extS ?_ _ | refine Chg.alloc ?_ _ | refine Chg.drew ?_ | refine Chg.setCellE ?_ ?_ _ | refine le_addk ?_ _ | refine le_ext ?_ | refine le_alloc ?_ _ | refine le_setC ?_ _ _ | refine le_drew ?_ | assumption | (refine Nat.le_of_lt ?_; omega) | omega)))
  have BW0 : BoxAt W (w.heap.size) #[.string s, .slice A xs.length c] := by rw [hW.out]; refine ⟨?_, fun j => ?_, fun j => ?_⟩ <;> go_simp
  obtain ⟨lW0, bW0, fW0⟩ := BW0
  have cW0_0 : W.cell? ⟨w.heap.size, 0, none⟩ = some (.string s) := bW0 0
  have cW0_1 : W.cell? ⟨w.heap.size, 1, none⟩ = some (.slice A xs.length c) := bW0 1
  have BW1 : BoxAt W (w.heap.size + 1) #[.string s', .slice A' ys.length c'] := by rw [hW.out]; refine ⟨?_, fun j => ?_, fun j => ?_⟩ <;> go_simp
  obtain ⟨lW1, bW1, fW1⟩ := BW1
  have cW1_0 : W.cell? ⟨w.heap.size + 1, 0, none⟩ = some (.string s') := bW1 0
  have cW1_1 : W.cell? ⟨w.heap.size + 1, 1, none⟩ = some (.slice A' ys.length c') := bW1 1
  clear hW
  go_wp2
  have h1 := h1.toExt xW
  have h2 := h2.toExt xW
  go_loopw [5, 6] (fun v i wr => ∃ (k : Nat) (ds : List Int) (F : List Nat), i = .int .i64 k ∧ k ≤ 5 ∧ SV 3 1 sI wr v ds F ∧ (∀ b ∈ F, W.heap.size ≤ b) ∧ (∃ y, wr = ext W y) ∧ ds.length ≤ k ∧ ds ++ cvars (5 - k) k xs ys = cvars 5 0 xs ys) (fun _ i _ => 5 - (intOf i).toNat)
  case atStart => exact ⟨0, [], [W.heap.size], rfl, by omega, SV.empty W, by simp, alloc_ext _ _, by simp, by simp⟩
  case round =>
    obtain ⟨k, ds, F, rfl, hk, hS, hF, ⟨y, rfl⟩, hl, hj⟩ := hrel
    have Hj := Lib.hid hj
    have HF := Lib.hid hF
    clear hj hF
    by_cases hlt : k < 5
    · have e := Hj.out
      rw [cvars_step hlt] at e
      obtain ⟨t1, ht1⟩ : ∃ t, decide ((k : Int) ∈ xs) = t := ⟨_, rfl⟩
      obtain ⟨t2, ht2⟩ : ∃ t, decide ((k : Int) ∈ ys) = t := ⟨_, rfl⟩
      have H1 := Lib.hid ht1
      have H2 := Lib.hid ht2
      rw [ht1, ht2] at e
      have He := Lib.hid e
      have l0 := lt_ext (x := y) lW0
      have l1 := lt_ext (x := y) lW1
      clear e ht1 ht2
      cases t1 with
      | false =>
        go_wp2_with (first
          | (go_at_call_of 53 (A); refine (specContains_any hx h1.ext).mono ?_; rintro e w1 ⟨rfl, hx1⟩; rw [H1.out]))
        exact ⟨⟨k + 1, ds, F, by go_num, by omega, hS.toExt hx1, HF.out, (by refine Chg.isExt (F := []) ?_ (refl_ext _) (by simp); repeat (with_reducible (first | exact Chg.refl _ _ | exact Nat.le_refl _ | exact Chg.ofExt (by assumption) | refine Chg.trans0 ?_ (by assumption) | refine Chg.extS ?_ _ | refine Chg.alloc ?_ _ | refine Chg.drew ?_ | refine Chg.setCellE ?_ ?_ _ | refine le_addk ?_ _ | refine le_ext ?_ | refine le_alloc ?_ _ | refine le_setC ?_ _ _ | refine le_drew ?_ | assumption | (refine Nat.le_of_lt ?_; omega) | omega))), by omega, by simpa using He.out⟩, by simp [intOf]; omega⟩
      | true =>
        cases t2 with
        | false =>
          go_wp2_with (first
            | (go_at_call_of 53 (A); refine (specContains_any hx h1.ext).mono ?_; rintro e w1 ⟨rfl, ⟨y1, rfl⟩⟩; rw [H1.out])
            | (go_at_call_of 53 (A'); refine (specContains_any hy h2.ext.ext).mono ?_; rintro e w1 ⟨rfl, ⟨y2, rfl⟩⟩; rw [H2.out]))
          exact ⟨⟨k + 1, ds, F, by go_num, by omega, hS.ext.ext, HF.out, (by refine Chg.isExt (F := []) ?_ (refl_ext _) (by simp); repeat (with_reducible (first | exact Chg.refl _ _ | exact Nat.le_refl _ | exact Chg.ofExt (by assumption) | refine Chg.trans0 ?_ (by assumption) | refine Chg.extS ?_ _ | refine Chg.alloc ?_ _ | refine Chg.drew ?_ | refine Chg.setCellE ?_ ?_ _ | refine le_addk ?_ _ | refine le_ext ?_ | refine le_alloc ?_ _ | refine le_setC ?_ _ _ | refine le_drew ?_ | assumption | (refine Nat.le_of_lt ?_; omega) | omega))), by omega, by simpa using He.out⟩, by simp [intOf]; omega⟩
        | true =>
          go_wp2_with (first
            | (go_at_call_of 53 (A); refine (specContains_any hx h1.ext).mono ?_; rintro e w1 ⟨rfl, ⟨y1, rfl⟩⟩; rw [H1.out])
            | (go_at_call_of 53 (A'); refine (specContains_any hy h2.ext.ext).mono ?_; rintro e w1 ⟨rfl, ⟨y2, rfl⟩⟩; rw [H2.out])
            | (at_builtin; refine wpList_app1 (E := sI) (d := (k : Int)) rfl _ _ _ rfl tI rfl rfl rfl (by simp) (fun _ => ⟨rfl, rfl⟩) rfl (by simp [Value.oneCell']) hS.ext.ext (by omega) (by omega) ?_; intro v' w' F' hS' hC' hF'))
          exact ⟨⟨k + 1, ds ++ [(k : Int)], F', by go_num, by omega, hS', newer HF.out (size_of_ext (by refine Chg.isExt (F := []) ?_ (refl_ext _) (by simp); repeat (with_reducible (first | exact Chg.refl _ _ | exact Nat.le_refl _ | exact Chg.ofExt (by assumption) | refine Chg.trans0 ?_ (by assumption) | refine Chg.extS ?_ _ | refine Chg.alloc ?_ _ | refine Chg.drew ?_ | refine Chg.setCellE ?_ ?_ _ | refine le_addk ?_ _ | refine le_ext ?_ | refine le_alloc ?_ _ | refine le_setC ?_ _ _ | refine le_drew ?_ | assumption | (refine Nat.le_of_lt ?_; omega) | omega)))) hF', hC'.isExt (by refine Chg.isExt (F := []) ?_ (refl_ext _) (by simp); repeat (with_reducible (first | exact Chg.refl _ _ | exact Nat.le_refl _ | exact Chg.ofExt (by assumption) | refine Chg.trans0 ?_ (by assumption) | refine Chg.extS ?_ _ | refine Chg.alloc ?_ _ | refine Chg.drew ?_ | refine Chg.setCellE ?_ ?_ _ | refine le_addk ?_ _ | refine le_ext ?_ | refine le_alloc ?_ _ | refine le_setC ?_ _ _ | refine le_drew ?_ | assumption | (refine Nat.le_of_lt ?_; omega) | omega))) HF.out, by simp; omega, by simpa using He.out⟩, by simp [intOf]; omega⟩
    · go_wp2
      go_ret
      have e := Hj.out
      rw [show 5 - k = 0 by omega, cvars, List.append_nil] at e
      exact ⟨_, F, rfl, trans_ext xW ⟨_, rfl⟩, by rw [← e]; exact hS, fun b hb => Nat.le_trans (size_of_ext xW) (HF.out b hb)⟩
end Go.Proofs.Ytoffbconbgipjaa
