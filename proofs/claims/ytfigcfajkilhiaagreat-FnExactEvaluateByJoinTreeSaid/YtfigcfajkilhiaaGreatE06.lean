/- Contracts of functions that the statement reaches. -/
import Derived.Test.YtfigcfajkilhiaaGreatE03
import Derived.Test.YtfigcfajkilhiaaGreatE04
import Derived.Test.YtfigcfajkilhiaaGreatE05
namespace Go.Proofs.YtfigcfajkilhiaaGreat
open Go.RowKit
def pickL (row cols : List Int) : List Int := cols.map fun c => row.getD c.toNat 0
theorem pickL_step {row cols : List Int} {k : Nat} (h : k < cols.length) : pickL row (cols.take (k + 1)) = pickL row (cols.take k) ++ [row.getD cols[k].toNat 0] := by
  unfold pickL
  rw [List.take_succ_eq_append_getElem h, List.map_append]
  rfl
theorem pickL_length (row cols : List Int) : (pickL row cols).length = cols.length := by simp [pickL]
theorem RV.atI' {w : World} {A : Option Addr} {xs : List Int} {n : Nat} (h : RI w A xs) (hk : n < xs.length) : ∃ b o, A = some ⟨b, o, none⟩ ∧ b < w.heap.size ∧ w.cell? ⟨b, o + n, none⟩ = some (.int .i64 (xs.getD n 0)) := by
  rw [getDl _ _ hk]
  exact h.atI hk
set_option maxHeartbeats 1000000 in
theorem pick_any {A A' : Option Addr} {c c' : Nat} {row cols : List Int} {w : World} (h1 : RI w A row) (hc : cols.length ≤ 1000000000) (h2 : RI w A' cols) (hb : ∀ v ∈ cols, 0 ≤ v ∧ v < row.length) :
    Calls Tryz.prog 96 #[.slice A row.length c, .slice A' cols.length c'] w fun e w' => ∃ v F, e = .returned v ∧ (∃ y, w' = ext w y) ∧ SV 3 1 sI w' v (pickL row cols) F ∧ ∀ b ∈ F, w.heap.size ≤ b := by
  have hS0 := SV.empty (α := Int) (te := 3) (size := 1) (E := sI) w
  have Hb := Lib.hid hb
  clear hb
  go_enter Tryz.func96, Tryz.ntmps96
  go_wp2
  go_loopw [5, 11] (fun v i wr => ∃ (k : Nat) (F : List Nat), i = .int .i64 k ∧ k ≤ cols.length ∧ SV 3 1 sI wr v (pickL row (cols.take k)) F ∧ (∀ b ∈ F, w.heap.size ≤ b) ∧ (∃ y, wr = ext w y)) (fun _ i _ => cols.length - (intOf i).toNat)
  case atStart => exact ⟨0, _, rfl, by omega, by simpa [pickL] using hS0, by simp, alloc_ext _ _⟩
  case round =>
    obtain ⟨k, F, rfl, hk, hS, hF, hw⟩ := hrel
    have HF := Lib.hid hF
    clear hF
    by_cases hlt : k < cols.length
    · obtain ⟨b, o, rfl, hb', hc'⟩ := (h2.toExt hw).atI hlt
      obtain ⟨n0, n1⟩ := Hb.out _ (List.getElem_mem hlt)
      have Hst := Lib.hid (pickL_step (row := row) hlt)
      have hlk : (pickL row (cols.take k)).length + 1 ≤ 2000000000 := by rw [pickL_length]; simp; omega
      obtain ⟨n, hn⟩ : ∃ n, cols[k] = n := ⟨_, rfl⟩
      rw [hn] at n0 n1 hc' Hst
      clear hn
      obtain ⟨m, rfl⟩ := Int.eq_ofNat_of_zero_le n0
      rw [Int.toNat_natCast] at Hst
      obtain ⟨b1, o1, rfl, hb1, hc1⟩ := (h1.toExt hw).atI' (n := m) (by omega)
      obtain ⟨x, hx⟩ : ∃ x, row.getD m 0 = x := ⟨_, rfl⟩
      rw [hx] at hc1 Hst
      clear hx
      have n2 : (m : Int) < row.length := n1
      go_wp2_with (at_builtin; refine wpList_app1 (E := sI) (d := x) rfl _ _ _ rfl tI rfl rfl rfl (by simp) (fun _ => ⟨rfl, rfl⟩) rfl (by simp [Value.oneCell']) hS hlk (by omega) ?_; intro v' w' F' hS' hC' hF')
      exact ⟨⟨k + 1, F', by go_num, by omega, by rw [Hst.out]; exact hS', newer HF.out (size_of_ext hw) hF', hC'.isExt hw HF.out⟩, by simp [intOf]; omega⟩
    · rw [List.take_of_length_le (by omega)] at hS
      go_wp2
      go_ret
      exact ⟨_, F, rfl, hw, hS, HF.out⟩
set_option maxHeartbeats 1000000 in
theorem l5Cols_any {A A' : Option Addr} {c c' : Nat} {row cols : List Int} {w : World} (h1 : RI w A row) (hc : cols.length ≤ 1000000000) (h2 : RI w A' cols) (hb : ∀ v ∈ cols, 0 ≤ v ∧ v < row.length) :
    Calls Tryz.prog 73 #[.slice A row.length c, .slice A' cols.length c'] w fun e w' => ∃ v F, e = .returned v ∧ (∃ y, w' = ext w y) ∧ SV 3 1 sI w' v (pickL row cols) F ∧ ∀ b ∈ F, w.heap.size ≤ b := by
  have hS0 := SV.empty (α := Int) (te := 3) (size := 1) (E := sI) w
  have Hb := Lib.hid hb
  clear hb
  go_enter Tryz.func73, Tryz.ntmps73
  go_wp2
  go_loopw [5, 6] (fun v i wr => ∃ (k : Nat) (F : List Nat), i = .int .i64 k ∧ k ≤ cols.length ∧ SV 3 1 sI wr v (pickL row (cols.take k)) F ∧ (∀ b ∈ F, w.heap.size ≤ b) ∧ (∃ y, wr = ext w y)) (fun _ i _ => cols.length - (intOf i).toNat)
  case atStart => exact ⟨0, _, rfl, by omega, by simpa [pickL] using hS0, by simp, alloc_ext _ _⟩
  case round =>
    obtain ⟨k, F, rfl, hk, hS, hF, hw⟩ := hrel
    have HF := Lib.hid hF
    clear hF
    by_cases hlt : k < cols.length
    · obtain ⟨b, o, rfl, hb', hc'⟩ := (h2.toExt hw).atI hlt
      obtain ⟨n0, n1⟩ := Hb.out _ (List.getElem_mem hlt)
      have Hst := Lib.hid (pickL_step (row := row) hlt)
      have hlk : (pickL row (cols.take k)).length + 1 ≤ 2000000000 := by rw [pickL_length]; simp; omega
      obtain ⟨n, hn⟩ : ∃ n, cols[k] = n := ⟨_, rfl⟩
      rw [hn] at n0 n1 hc' Hst
      clear hn
      obtain ⟨m, rfl⟩ := Int.eq_ofNat_of_zero_le n0
      rw [Int.toNat_natCast] at Hst
      obtain ⟨b1, o1, rfl, hb1, hc1⟩ := (h1.toExt hw).atI' (n := m) (by omega)
      obtain ⟨x, hx⟩ : ∃ x, row.getD m 0 = x := ⟨_, rfl⟩
      rw [hx] at hc1 Hst
      clear hx
      have n2 : (m : Int) < row.length := n1
      go_wp2_with (at_builtin; refine wpList_app1 (E := sI) (d := x) rfl _ _ _ rfl tI rfl rfl rfl (by simp) (fun _ => ⟨rfl, rfl⟩) rfl (by simp [Value.oneCell']) hS hlk (by omega) ?_; intro v' w' F' hS' hC' hF')
      exact ⟨⟨k + 1, F', by go_num, by omega, by rw [Hst.out]; exact hS', newer HF.out (size_of_ext hw) hF', hC'.isExt hw HF.out⟩, by simp [intOf]; omega⟩
    · rw [List.take_of_length_le (by omega)] at hS
      go_wp2
      go_ret
      exact ⟨_, F, rfl, hw, hS, HF.out⟩
def fitsC (a : Int) (cols : List Int) : Bool := decide (cols.length ≤ 5) && cols.all fun c => inB c 0 (a - 1)
theorem fitsC_iff {a : Int} {cols : List Int} : fitsC a cols = true ↔ cols.length ≤ 5 ∧ ∀ v ∈ cols, 0 ≤ v ∧ v < a := by
  unfold fitsC
  rw [Bool.and_eq_true, decide_eq_true_eq, List.all_eq_true]
  refine and_congr_right fun _ => ?_
  constructor
  · intro h v hv; have := inB_t (h v hv); omega
  · intro h v hv; have := h v hv; simp [inB]; omega
set_option maxHeartbeats 400000 in
theorem columnsFit_any {A : Option Addr} {c : Nat} {a : Int} {cols : List Int} {w : World} (ha0 : -1000000000 ≤ a) (ha1 : a ≤ 1000000000) (hx : cols.length ≤ 1000000000) (h1 : RI w A cols) :
    Calls Tryz.prog 95 #[.int .i64 a, .slice A cols.length c] w fun e w' => e = .returned (.bool (fitsC a cols)) ∧ w = w' := by
  by_cases h5 : cols.length ≤ 5
  · have HE := Lib.hid (show fitsC a cols = cols.all fun c => inB c 0 (a - 1) by unfold fitsC; rw [decide_eq_true h5, Bool.true_and])
    go_enter Tryz.func95, Tryz.ntmps95
    go_wp2
    go_loop [12] (fun i => ∃ k : Nat, i = .int .i64 k ∧ k ≤ cols.length ∧ ((cols.drop k).all fun c => inB c 0 (a - 1)) = cols.all fun c => inB c 0 (a - 1)) (fun i => cols.length - (intOf i).toNat)
    case atStart => exact ⟨0, rfl, by omega, by simp⟩
    case round =>
      obtain ⟨k, rfl, hk, hj⟩ := hrel
      have Hj := Lib.hid hj
      clear hj
      by_cases hlt : k < cols.length
      · obtain ⟨b, o, rfl, hb, hc⟩ := h1.atI hlt
        have e := Hj.out
        rw [allR_step hlt] at e
        obtain ⟨t, ht⟩ : ∃ t, inB cols[k] 0 (a - 1) = t := ⟨_, rfl⟩
        rw [ht] at e
        have HT := Lib.hid ht
        have He := Lib.hid e
        clear e ht
        cases t
        · go_wp2_with (go_at_call 109; refine (within_any _ _ _ _).mono ?_; rintro e w' ⟨rfl, rfl⟩; rw [HT.out])
          go_ret
          exact ⟨by rw [HE.out, ← He.out]; rfl, rfl⟩
        · go_wp2_with (go_at_call 109; refine (within_any _ _ _ _).mono ?_; rintro e w' ⟨rfl, rfl⟩; rw [HT.out])
          exact ⟨⟨k + 1, by go_num, by omega, by simpa using He.out⟩, by simp [intOf]; omega⟩
      · have e := Hj.out
        rw [allR_end hlt] at e
        have He := Lib.hid e
        clear e
        go_wp2
        go_ret
        exact ⟨by rw [HE.out, ← He.out]; rfl, rfl⟩
  · have HE := Lib.hid (show fitsC a cols = false by unfold fitsC; rw [decide_eq_false h5, Bool.false_and])
    go_enter Tryz.func95, Tryz.ntmps95
    go_wp2
    go_ret
    exact ⟨by rw [HE.out]; rfl, rfl⟩
def PlI (rows : List (List Int)) (row : List Int) (lo hi : Nat) : Prop := AscR rows → (∀ i (_ : i < rows.length), i < lo → cmpL rows[i] row < 0) ∧ ∀ i (_ : i < rows.length), hi ≤ i → ¬ cmpL rows[i] row < 0
theorem PlI.up {rows : List (List Int)} {row : List Int} {lo hi m : Nat} (h : PlI rows row lo hi) (hm : m < rows.length) (hc : cmpL rows[m] row < 0) : PlI rows row (m + 1) hi := fun ha => by
  refine ⟨fun i hi hlt => ?_, (h ha).2⟩
  rcases Nat.lt_or_eq_of_le (Nat.le_of_lt_succ hlt) with k | k
  · exact cmpL_trans (asc_get ha k hm) hc
  · subst k; exact hc
theorem PlI.down {rows : List (List Int)} {row : List Int} {lo hi m : Nat} (h : PlI rows row lo hi) (hm : m < rows.length) (hc : ¬ cmpL rows[m] row < 0) : PlI rows row lo m := fun ha => by
  refine ⟨(h ha).1, fun i hi hle => ?_⟩
  rcases Nat.lt_or_eq_of_le hle with k | k
  · exact fun hl => hc (cmpL_trans (asc_get ha k hi) hl)
  · subst k; exact hc
theorem PlI.start (rows : List (List Int)) (row : List Int) : PlI rows row 0 rows.length := fun _ => ⟨fun i _ h => by omega, fun i h k => by omega⟩
def PlP (rows : List (List Int)) (row : List Int) (w : World) (e : Ending) (w' : World) : Prop :=
  ∃ (k : Nat) (b : Bool), e = .returned (.tuple #[.int .i64 k, .bool b]) ∧ k ≤ rows.length ∧ (AscR rows → b = decide (row ∈ rows)) ∧ PlI rows row k k ∧ ∃ y, w' = ext w y
theorem plp_end {rows : List (List Int)} {row : List Int} {k : Nat} {b : Bool} (h : PlI rows row k k) (hb : b = (decide (k < rows.length) && decide (cmpL (rows.getD k []) row = 0))) : AscR rows → b = decide (row ∈ rows) := fun ha => by
  rw [hb]; exact place_mem ha (h ha).1 (h ha).2
end Go.Proofs.YtfigcfajkilhiaaGreat
