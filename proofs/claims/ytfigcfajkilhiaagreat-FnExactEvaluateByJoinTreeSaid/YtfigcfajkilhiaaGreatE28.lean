/- Contracts of functions that the statement reaches. -/
import Derived.Deep.RegionLaw
import Derived.Test.YtfigcfajkilhiaaGreatE22
import Derived.Test.YtfigcfajkilhiaaGreatE19
import Derived.Test.YtfigcfajkilhiaaGreatE04
import Derived.Test.YtfigcfajkilhiaaGreatE21
namespace Go.Proofs.YtfigcfajkilhiaaGreat
open Go.RowKit
def oL (ps : List Int) (f : Nat) (kids : List Int) (j : Nat) : List Int := ((kids.take j).map (ordF ps f)).flatten
theorem oL_zero (ps : List Int) (f : Nat) (kids : List Int) : oL ps f kids 0 = [] := by simp [oL]
theorem oL_step {ps : List Int} {f : Nat} {kids : List Int} {j : Nat} (h : j < kids.length) : oL ps f kids (j + 1) = oL ps f kids j ++ ordF ps f kids[j] := by
  unfold oL
  rw [List.take_succ_eq_append_getElem h, List.map_append, List.flatten_append]
  simp
theorem oL_end {ps : List Int} {f : Nat} {k : Int} {j : Nat} (h : (chl 0 k ps).length ≤ j) : oL ps f (chl 0 k ps) j ++ [k] = ordF ps (f + 1) k := by
  unfold oL
  rw [List.take_of_length_le h, ordF]
theorem flat_le {g : Int → List Int} {m : Nat} (h : ∀ x, (g x).length ≤ m) : ∀ l : List Int, ((l.map g).flatten).length ≤ l.length * m
  | [] => by simp
  | x :: l => by
    have h1 := h x
    have h2 := flat_le h l
    rw [List.map_cons, List.flatten_cons, List.length_append, List.length_cons, Nat.add_mul]
    omega
theorem ordF_len {ps : List Int} (h : ps.length ≤ 4) : ∀ (f : Nat) (k : Int), (ordF ps f k).length ≤ 5 ^ f
  | 0, k => by simp [ordF]
  | f + 1, k => by
    have h1 := flat_le (fun x => ordF_len h f x) (chl 0 k ps)
    have h2 := chl_length k 0 ps
    have h3 : (chl 0 k ps).length * 5 ^ f ≤ 4 * 5 ^ f := Nat.mul_le_mul_right _ (by omega)
    have h4 : 1 ≤ 5 ^ f := Nat.one_le_pow _ _ (by omega)
    rw [ordF, List.length_append, List.length_singleton, Nat.pow_succ]
    omega
theorem ordF_small {ps : List Int} (h : ps.length ≤ 4) {f : Nat} (hf : f ≤ 5) (k : Int) : (ordF ps f k).length ≤ 3125 := by
  have h1 := ordF_len h f k
  have h2 : 5 ^ f ≤ 5 ^ 5 := Nat.pow_le_pow_right (by omega) hf
  omega
theorem oL_small {ps : List Int} (h : ps.length ≤ 4) {f : Nat} (hf : f ≤ 5) {kids : List Int} (hk : kids.length ≤ 4) (j : Nat) : (oL ps f kids j).length ≤ 12500 := by
  have h1 := flat_le (fun x => ordF_small h hf x) (kids.take j)
  have h2 : (kids.take j).length ≤ 4 := by rw [List.length_take]; omega
  have h3 : (kids.take j).length * 3125 ≤ 4 * 3125 := Nat.mul_le_mul_right _ h2
  unfold oL
  omega
def OrP (L : List Int) (w : World) (e : Ending) (w' : World) : Prop := ∃ v F, e = .returned v ∧ (∃ y, w' = ext w y) ∧ SV 3 1 sI w' v L F ∧ ∀ b ∈ F, w.heap.size ≤ b
set_option maxRecDepth 100000 in
set_option maxHeartbeats 8000000 in
theorem l11Order_any {D : Option Addr} {f1 : Nat} {ps : List Int} (hp : ps.length ≤ 4) : ∀ (f : Nat) (k : Int) (w : World), f ≤ 5 → deepB ps f k = true → RI w D ps →
    Calls Tryz.prog 33 #[.agg #[.slice D ps.length f1], .int .i64 k] w (OrP (ordF ps f k) w) := by
  intro f
  induction f with
  | zero => intro k w _ hd _; simp [deepB] at hd
  | succ f ih =>
    intro k w hf hd h3
    have IH := Lib.hid ih
    have HKD := Lib.hid (show ∀ c ∈ chl 0 k ps, deepB ps f c = true by rw [deepB, List.all_eq_true] at hd; exact hd)
    have hcl := chl_length k 0 ps
    have HEND := Lib.hid (fun (j : Nat) (h : (chl 0 k ps).length ≤ j) => oL_end (f := f) h)
    have HST := Lib.hid (fun (j : Nat) (h : j < (chl 0 k ps).length) => oL_step (ps := ps) (f := f) h)
    have HSM := Lib.hid (fun (j : Nat) => oL_small hp (f := f) (by omega) (kids := chl 0 k ps) (by omega) j)
    have HS1 := Lib.hid (fun (x : Int) => ordF_small hp (f := f) (by omega) x)
    have HZ0 := Lib.hid (oL_zero ps f (chl 0 k ps))
    clear ih hd
    go_enter Tryz.func33, Tryz.ntmps33
    go_upto_region 1 with fail
    refine wp_name ?_
    intro W hW
    have xW : ∃ y, W = ext w y := by rw [hW.out]; exact (by refine x'z ?_; repeat (with_reducible (first | exact x'a _ _ | exact x'b _ | exact x'c (by assumption) | refine x'd ?_ (by assumption) | refine x'e ?_ _ | refine x'f ?_ _ | refine x'g ?_ | refine x'h ?_ ?_ _ | refine x'i ?_ _ | refine x'j ?_ | refine x'k ?_ _ | refine x'l ?_ _ _ | refine x'm ?_ | assumption | (refine x'n ?_; omega) | omega)))
    have BW0 : BoxAt W (w.heap.size) #[.slice D ps.length f1] := by rw [hW.out]; refine ⟨?_, fun j => ?_, fun j => ?_⟩ <;> go_simp
    obtain ⟨lW0, bW0, fW0⟩ := BW0
    clear hW
    have HW := Lib.hid (show BoxAt W w.heap.size #[.slice D ps.length f1] from ⟨lW0, bW0, fW0⟩)
    clear lW0 bW0 fW0
    obtain ⟨lt, r0, ft⟩ := bx1 HW.out
    go_wp2_with fail
    refine (specJoinTreeChildren_any (by omega) (h3.toExt (trans_ext xW (alloc_ext _ _)))).mono ?_
    rintro e w2 ⟨vk, Fk, rfl, hxk, hSk, hFk⟩
    obtain ⟨kids, hkids⟩ : ∃ l, chl 0 k ps = l := ⟨_, rfl⟩
    rw [hkids] at hSk HKD HEND HST HSM HZ0 hcl
    obtain ⟨Ak, ak, rfl, _, _⟩ := hSk.form
    have HSk := Lib.hid hSk
    have HFk := Lib.hid (show ∀ b ∈ Fk, b ≠ W.heap.size from fun b hb e => by have := hFk b hb; simp at this; omega)
    have HE := Lib.hid ((SV.empty (α := Int) (te := 3) (size := 1) (E := sI) W).toExt hxk)
    have hxk2 : ∃ y, w2 = ext W y := trans_ext (alloc_ext _ _) hxk
    have hz2 : W.heap.size < w2.heap.size := by have := size_of_ext hxk; simp at this; omega
    have hzw := size_of_ext xW
    have HXK := Lib.hid hxk2
    clear hSk hFk hkids lt r0 ft hxk hxk2
    go_wp2_with fail
    go_loopw [5, 7] (fun v i wr => ∃ (j : Nat) (F : List Nat), i = .int .i64 j ∧ j ≤ kids.length ∧ Hid (SV 3 1 sI wr v (oL ps f kids j) F) ∧ Hid (∀ b ∈ F, b = W.heap.size ∨ w2.heap.size ≤ b) ∧ Hid (Chg [W.heap.size] w2 wr)) (fun _ i _ => kids.length - (intOf i).toNat)
    case atStart => exact ⟨0, [W.heap.size], rfl, by omega, by rw [HZ0.out]; exact HE, Lib.hid (by simp), Lib.hid (Chg.refl _ _)⟩
    case round =>
      obtain ⟨j, F, rfl, hj, HS, HF, HC⟩ := hrel
      obtain ⟨A, c, rfl, _, _⟩ := HS.out.form
      have hy : ∃ y, wr = ext W y := HC.out.isExt HXK.out (by simp)
      obtain ⟨lt, r0, ft⟩ := bx1 (HW.out.toExt hy)
      have hzr := HC.out.size
      have hyw := trans_ext xW hy
      have hsm := HSM.out j
      by_cases hlt : j < kids.length
      · obtain ⟨gk, ck, eA, hgkF, _, _⟩ := HSk.out.block (by intro h; rw [h] at hlt; simp at hlt)
        injection eA with eA _ eC
        subst eA eC
        have hSkr := HSk.out.chg HC.out (fun b hb h => HFk.out b hb (List.mem_singleton.1 h))
        have hck := cells_of hSkr hlt
        have hgkr := hSkr.lt gk hgkF
        have hkd := HKD.out _ (List.getElem_mem hlt)
        have hst := HST.out j hlt
        rw [getDl _ _ hlt] at hck
        obtain ⟨x, hx⟩ : ∃ x, kids[j] = x := ⟨_, rfl⟩
        rw [hx] at hck hkd hst
        have HKX := Lib.hid hkd
        have HSX := Lib.hid hst
        have hsx := HS1.out x
        clear hkd hst hx hSkr hgkF
        go_upto_region 6 with fail
        go_region_law (first
          | (refine step_appV (E := sI) (V := vI) (es := ordF ps f x) (by rfl) _ _ _ (by rfl) tI (by rfl) (HS5.out.toExt (by refine x'z ?_; repeat (with_reducible (first | exact x'a _ _ | exact x'b _ | exact x'c (by assumption) | refine x'd ?_ (by assumption) | refine x'e ?_ _ | refine x'f ?_ _ | refine x'g ?_ | refine x'h ?_ ?_ _ | refine x'i ?_ _ | refine x'j ?_ | refine x'k ?_ _ | refine x'l ?_ _ _ | refine x'm ?_ | assumption | (refine x'n ?_; omega) | omega)))) (by rfl) (by rfl) (HV5.out.toExt (by refine x'z ?_; repeat (with_reducible (first | exact x'a _ _ | exact x'b _ | exact x'c (by assumption) | refine x'd ?_ (by assumption) | refine x'e ?_ _ | refine x'f ?_ _ | refine x'g ?_ | refine x'h ?_ ?_ _ | refine x'i ?_ _ | refine x'j ?_ | refine x'k ?_ _ | refine x'l ?_ _ _ | refine x'm ?_ | assumption | (refine x'n ?_; omega) | omega)))) vI_s vI_1 (by omega) (by omega) ?_; intro v6 w6 F6 hS6 hC6 hF6; obtain ⟨A6, c6, rfl, _, _⟩ := hS6.form)
          | (rw [if_pos (by simp [Region.wanted])]; go_wp2_with (go_at_call 33; refine (IH.out x _ (by omega) HKX.out (h3.toExt (trans_ext hyw (by refine x'z ?_; repeat (with_reducible (first | exact x'a _ _ | exact x'b _ | exact x'c (by assumption) | refine x'd ?_ (by assumption) | refine x'e ?_ _ | refine x'f ?_ _ | refine x'g ?_ | refine x'h ?_ ?_ _ | refine x'i ?_ _ | refine x'j ?_ | refine x'k ?_ _ | refine x'l ?_ _ _ | refine x'm ?_ | assumption | (refine x'n ?_; omega) | omega)))))).mono ?_; rintro e w5 ⟨v5, F5, rfl, hx5, hS5, hF5⟩; obtain ⟨A5, a5, rfl, _, _, hr5⟩ := hS5.view sI_v; have hx5r : ∃ y, w5 = ext wr y := (by refine x'z ?_; repeat (with_reducible (first | exact x'a _ _ | exact x'b _ | exact x'c (by assumption) | refine x'd ?_ (by assumption) | refine x'e ?_ _ | refine x'f ?_ _ | refine x'g ?_ | refine x'h ?_ ?_ _ | refine x'i ?_ _ | refine x'j ?_ | refine x'k ?_ _ | refine x'l ?_ _ _ | refine x'm ?_ | assumption | (refine x'n ?_; omega) | omega))); have HV5 := Lib.hid hr5; have HS5 := Lib.hid (HS.out.toExt hx5r); have hz5 := size_of_ext hx5r; clear hS5)))
        all_goals
          have hF9 : ∀ b ∈ F6, b = W.heap.size ∨ w2.heap.size ≤ b := fun b hb => by
            rcases hF6 b hb with h | h
            · exact HF.out b h
            · right
              first | omega | (simp at h; omega)
          have hC9 := ((HC.out.trans0 hx5r).trans0 (by refine x'z ?_; repeat (with_reducible (first | exact x'a _ _ | exact x'b _ | exact x'c (by assumption) | refine x'd ?_ (by assumption) | refine x'e ?_ _ | refine x'f ?_ _ | refine x'g ?_ | refine x'h ?_ ?_ _ | refine x'i ?_ _ | refine x'j ?_ | refine x'k ?_ _ | refine x'l ?_ _ _ | refine x'm ?_ | assumption | (refine x'n ?_; omega) | omega)))).trans hC6 (fun x hx => by
            rcases HF.out x hx with h | h
            · left; rw [h]; simp
            · right; exact h)
          rw [List.length_append, ← HSX.out] at hS6
          have HS6 := Lib.hid hS6
          have HC9 := Lib.hid hC9
          clear hS6 hF6 hC9 hC6
          go_wp2_with fail
          exact ⟨⟨j + 1, F6, by go_num, by omega, HS6, Lib.hid hF9, HC9⟩, by simp [intOf]; omega⟩
      · have hje : kids.length ≤ j := by omega
        have hen := HEND.out j hje
        have HEN := Lib.hid hen
        have hS := HS.out
        clear hen
        go_wp2_with (at_builtin; refine wpList_appI _ rfl _ _ _ rfl tI rfl rfl rfl hS (by omega) (by omega) ?_; intro v6 w6 F6 hS6 hC6 hF6)
        go_ret
        exact ⟨_, F6, rfl, hC6.isExt hyw (fun b hb => by rcases HF.out b hb with h | h <;> omega), by rw [← HEN.out]; exact hS6, fun b hb => by
          rcases hF6 b hb with h | h
          · rcases HF.out b h with h | h <;> omega
          · omega⟩
theorem ordL_any {D : Option Addr} {f1 : Nat} {ps : List Int} {r : Nat} {w : World} (hp : ps.length ≤ 4) (hr : OrdOk ps r) (h3 : RI w D ps) :
    Calls Tryz.prog 33 #[.agg #[.slice D ps.length f1], .int .i64 (r : Int)] w (OrP (ordL ps) w) := by
  have h := l11Order_any (f1 := f1) hp (ps.length + 1) (r : Int) w (by omega) hr.deep h3
  unfold ordL
  rw [hr.root]
  exact h
end Go.Proofs.YtfigcfajkilhiaaGreat
