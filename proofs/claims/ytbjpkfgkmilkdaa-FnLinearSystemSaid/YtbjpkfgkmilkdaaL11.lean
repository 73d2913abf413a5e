/- Contracts of functions that the statement reaches. -/
import Derived.Deep.RegionHeld3
import Derived.Deep.DrawnRows
import Derived.Test.YtbjpkfgkmilkdaaL07
import Derived.Test.YtbjpkfgkmilkdaaL08
import Derived.Test.YtbjpkfgkmilkdaaL03
namespace Go.Proofs.Ytbjpkfgkmilkdaa
open Go.RowKit
attribute [local go_sem ↓] Go.wp_at_zero Go.wp_at_succ
theorem vR_s {w : World} (c : List Value) (d : Int × Int) (h : vR w c d) : sR w c d [] := ⟨h, rfl⟩
theorem vR_1 {w : World} (c : List Value) (d : Int × Int) (h : vR w c d) : ∀ u ∈ c, u.oneCell' = true := by
  simp only [vR] at h
  subst h
  simp [Value.oneCell']
theorem SV.put_row {te te2 g n c k : Nat} {w w' : World} {ds : List (List Q2)} {F Gk : List Nat} {v : Value} {d : List Q2} (h : SV te 1 (sSl te2 2 sR) w (.slice (some ⟨g, 0, none⟩) n c) ds F) (hN : F.Nodup) (hk : k < ds.length) (hc : w.cell? ⟨g, k, none⟩ = some v) (hG : Gk = fpOf v)
    (hS : SV te2 2 sR w' v d Gk) (hC : Chg Gk w w') : SV te 1 (sSl te2 2 sR) w' (.slice (some ⟨g, 0, none⟩) n c) (ds.set k d) F := by
  obtain ⟨v', G', _, k1, _, k2, _, _, _, _, k3, _⟩ := h.row hN hk
  rw [hc] at k1
  injection k1 with k1
  subst k1
  have e := k2.plainF
  subst hG e
  exact k3 w' d hS hC
theorem sl_blk7 {A A' : Option Addr} {n m c c' : Nat} (h : Value.slice A n c = .slice A' m c') : A = A' := by injection h
theorem augL_take {a : List (List Q2)} {b : List Q2} {k : Nat} (h : k < a.length) (h' : k < b.length) : augL (a.take (k + 1)) (b.take (k + 1)) = augL (a.take k) (b.take k) ++ [a[k] ++ [b[k]]] := by
  unfold augL
  rw [List.take_succ_eq_append_getElem h, List.take_succ_eq_append_getElem h', List.zipWith_append (by simp; omega)]
  rfl
theorem augL_length {a : List (List Q2)} {b : List Q2} {k : Nat} (h : k ≤ a.length) (h' : k ≤ b.length) : (augL (a.take k) (b.take k)).length = k := by
  unfold augL
  simp
  omega
theorem augL_rows {a : List (List Q2)} {b : List Q2} {n : Nat} (h : a.all (rowB n) = true) : ∀ r ∈ augL a b, r.length = n + 1 := by
  intro r hr
  unfold augL at hr
  rw [List.zipWith_eq_zipWith_take_min] at hr
  obtain ⟨i, hi, rfl⟩ := List.getElem_of_mem hr
  rw [List.all_eq_true] at h
  have := (rowB_t (h (a[i]'(by simp at hi; omega)) (List.getElem_mem _))).1
  simp [this]
theorem mea {n q : Nat} (h : q < n) : n - (intOf (.int .i64 ((q : Int) + 1))).toNat < n - (intOf (.int .i64 (q : Int))).toNat := by simp [intOf]; omega
theorem le_1000 {m n : Nat} (h : m ≤ n + 1) (hn : n ≤ 6) : m ≤ 1000 := by omega
def SoRes (te : Nat) (o : Option (List Q2)) (w : World) (e : Ending) (w' : World) : Prop := ∃ v F, e = .returned (.tuple #[v, .bool o.isSome]) ∧ (∃ y, w' = ext w y) ∧ SV te 2 sR w' v (o.getD []) F ∧ ∀ b ∈ F, w.heap.size ≤ b
theorem copyRationals_any {A : Option Addr} {c : Nat} {xs : List Q2} {w : World} (hx : xs.length ≤ 1000000000) (hA : A = none → c = 0) (h1 : RR w A xs) :
    Calls Try.prog 50 #[.slice A xs.length c] w fun e w' => ∃ v F, e = .returned v ∧ (∃ y, w' = ext w y) ∧ SV 67 2 sR w' v xs F ∧ ∀ b ∈ F, w.heap.size ≤ b := by
  have hS0 := SV.empty (α := Q2) (te := 67) (size := 2) (E := sR) w
  have HA := Lib.hid hA
  clear hA
  go_enter Try.func50, Try.ntmps50
  go_wp2_with (at_builtin; refine wpList_appL (E := sR) (V := vR) (es := xs) rfl _ _ _ rfl tR rfl hS0 rfl HA.out (h1.toExt (by refine x'z ?_; repeat (with_reducible (first | exact x'a _ _ | exact x'b _ | exact x'c (by assumption) | refine x'd ?_ (by assumption) | refine x'e ?_ _ | refine x'f ?_ _ | refine x'g ?_ | refine x'h ?_ ?_ _ | refine x'i ?_ _ | refine x'j ?_ | refine x'k ?_ _ | refine x'l ?_ _ _ | refine x'm ?_ | assumption | (refine x'n ?_; omega) | omega)))) vR_s vR_1 (by simp; omega) (by omega) ?_; intro v' w' F' hS hC hF)
  go_ret
  exact ⟨_, F', rfl, hC.isExt (by refine x'z ?_; repeat (with_reducible (first | exact x'a _ _ | exact x'b _ | exact x'c (by assumption) | refine x'd ?_ (by assumption) | refine x'e ?_ _ | refine x'f ?_ _ | refine x'g ?_ | refine x'h ?_ ?_ _ | refine x'i ?_ _ | refine x'j ?_ | refine x'k ?_ _ | refine x'l ?_ _ _ | refine x'm ?_ | assumption | (refine x'n ?_; omega) | omega))) (by simp), by simpa using hS, fun b hb => by
    rcases hF b hb with h | h
    · simp at h; omega
    · simp at h; omega⟩
theorem sysB_f1 {a : List (List Q2)} {b : List Q2} (h : ¬ b.length ≤ 6) : solR a b = none := by unfold solR sysB; rw [decide_eq_false h]; rfl
theorem sysB_f2 {a : List (List Q2)} {b : List Q2} (h : ¬ a.length = b.length) : solR a b = none := by unfold solR sysB sqB; rw [decide_eq_false h]; simp
theorem sysB_f3 {a : List (List Q2)} {b : List Q2} (h : allV b = false) : solR a b = none := by unfold solR sysB; rw [h]; simp
theorem sysB_f4 {a : List (List Q2)} {b : List Q2} (h : a.all (rowB b.length) = false) : solR a b = none := by unfold solR sysB sqB; rw [h]; simp
def solM (n : Nat) (m : List (List Q2)) : Option (List Q2) := match solS n n 0 m with
  | none => none
  | some m' => outS n m' n 0 []
theorem sysB_t {a : List (List Q2)} {b : List Q2} {n : Nat} (hn : b.length = n) (h1 : n ≤ 6) (h2 : a.length = n) (h3 : allV b = true) (h4 : a.all (rowB n) = true) : solR a b = solM n (augL a b) := by
  unfold solR sysB sqB solM
  rw [if_pos (by simp [h1, h2, h3, h4, hn]), hn]
  cases solS n n 0 (augL a b) <;> rfl
set_option maxRecDepth 100000 in
set_option maxHeartbeats 16000000 in
theorem SolveLinearSystem_no {A A' : Option Addr} {c c' : Nat} {a : List (List Q2)} {b : List Q2} {w : World} (_ha : a.length ≤ 1000000000) (hb : b.length ≤ 1000000000) (h2 : RR w A' b) (hno : ¬ (b.length ≤ 6 ∧ a.length = b.length ∧ allV b = true)) :
    Calls Try.prog 12 #[.slice A a.length c, .slice A' b.length c'] w (SoRes 67 (solR a b) w) := by
  by_cases h6 : b.length ≤ 6
  · by_cases hl : a.length = b.length
    · have hv : allV b = false := by
        cases h : allV b with
        | false => rfl
        | true => exact absurd ⟨h6, hl, h⟩ hno
      have q1 : ((a.length : Int) != (b.length : Int)) = false := by simp [hl]
      have HE := Lib.hid (sysB_f3 (a := a) hv)
      have HV := Lib.hid hv
      clear hv hno hl
      go_enter Try.func12, Try.ntmps12
      go_wp2_with (go_at_call 49; refine (allValid_any hb (h2.toExt (by refine x'z ?_; repeat (with_reducible (first | exact x'a _ _ | exact x'b _ | exact x'c (by assumption) | refine x'd ?_ (by assumption) | refine x'e ?_ _ | refine x'f ?_ _ | refine x'g ?_ | refine x'h ?_ ?_ _ | refine x'i ?_ _ | refine x'j ?_ | refine x'k ?_ _ | refine x'l ?_ _ _ | refine x'm ?_ | assumption | (refine x'n ?_; omega) | omega))))).mono ?_; rintro e w1 ⟨rfl, hx1⟩; rw [HV.out])
      go_ret2
      exact ⟨_, [], by rw [HE.out]; rfl, (by refine x'z ?_; repeat (with_reducible (first | exact x'a _ _ | exact x'b _ | exact x'c (by assumption) | refine x'd ?_ (by assumption) | refine x'e ?_ _ | refine x'f ?_ _ | refine x'g ?_ | refine x'h ?_ ?_ _ | refine x'i ?_ _ | refine x'j ?_ | refine x'k ?_ _ | refine x'l ?_ _ _ | refine x'm ?_ | assumption | (refine x'n ?_; omega) | omega))), by rw [HE.out]; exact SV.nil, by simp⟩
    · have q1 : ((a.length : Int) != (b.length : Int)) = true := by simp; omega
      have HE := Lib.hid (sysB_f2 hl)
      clear hno hl
      go_enter Try.func12, Try.ntmps12
      go_wp2
      go_ret2
      exact ⟨_, [], by rw [HE.out]; rfl, (by refine x'z ?_; repeat (with_reducible (first | exact x'a _ _ | exact x'b _ | exact x'c (by assumption) | refine x'd ?_ (by assumption) | refine x'e ?_ _ | refine x'f ?_ _ | refine x'g ?_ | refine x'h ?_ ?_ _ | refine x'i ?_ _ | refine x'j ?_ | refine x'k ?_ _ | refine x'l ?_ _ _ | refine x'm ?_ | assumption | (refine x'n ?_; omega) | omega))), by rw [HE.out]; exact SV.nil, by simp⟩
  · have HE := Lib.hid (sysB_f1 (a := a) h6)
    clear hno
    go_enter Try.func12, Try.ntmps12
    go_wp2
    go_ret2
    exact ⟨_, [], by rw [HE.out]; rfl, (by refine x'z ?_; repeat (with_reducible (first | exact x'a _ _ | exact x'b _ | exact x'c (by assumption) | refine x'd ?_ (by assumption) | refine x'e ?_ _ | refine x'f ?_ _ | refine x'g ?_ | refine x'h ?_ ?_ _ | refine x'i ?_ _ | refine x'j ?_ | refine x'k ?_ _ | refine x'l ?_ _ _ | refine x'm ?_ | assumption | (refine x'n ?_; omega) | omega))), by rw [HE.out]; exact SV.nil, by simp⟩
set_option maxRecDepth 100000 in
set_option maxHeartbeats 32000000 in
theorem SolveLinearSystem_yes {A A' : Option Addr} {c c' n : Nat} {a : List (List Q2)} {b : List Q2} {w : World} (h1 : RRR w A a) (hal : ∀ x ∈ a, x.length ≤ 1000000000) (h2 : RR w A' b) (hn : n ≤ 6) (hb : b.length = n) (ha : a.length = n) (hv : allV b = true) :
    Calls Try.prog 12 #[.slice A a.length c, .slice A' b.length c'] w (SoRes 67 (solR a b) w) := by
  have HL := Lib.hid hal
  have HV := Lib.hid hv
  have hb1 : b.length ≤ n := Nat.le_of_eq hb
  have hb2 : n ≤ b.length := Nat.le_of_eq hb.symm
  have ha1 : a.length ≤ n := Nat.le_of_eq ha
  have ha2 : n ≤ a.length := Nat.le_of_eq ha.symm
  have HB := Lib.hid hb
  have HA := Lib.hid ha
  have q1 : ((a.length : Int) != (b.length : Int)) = false := by simp [ha, hb]
  have q2 : decide ((6 : Int) < (b.length : Int)) = false := by simp; omega
  clear hal hv hb ha
  go_enter Try.func12, Try.ntmps12
  go_wp2_with (go_at_call 49; refine (allValid_any (by omega) (h2.toExt (by refine x'z ?_; repeat (with_reducible (first | exact x'a _ _ | exact x'b _ | exact x'c (by assumption) | refine x'd ?_ (by assumption) | refine x'e ?_ _ | refine x'f ?_ _ | refine x'g ?_ | refine x'h ?_ ?_ _ | refine x'i ?_ _ | refine x'j ?_ | refine x'k ?_ _ | refine x'l ?_ _ _ | refine x'm ?_ | assumption | (refine x'n ?_; omega) | omega))))).mono ?_; rintro e w1 ⟨rfl, hx1⟩; rw [HV.out])
  clear q1 q2
  go_loopw [7, 34] (fun v i wr => ∃ (k : Nat) (F : List Nat), i = .int .i64 k ∧ k ≤ a.length ∧ SV 26 1 (sSl 67 2 sR) wr v (augL (a.take k) (b.take k)) F ∧ F.Nodup ∧ (∀ b ∈ F, w.heap.size ≤ b) ∧ (∃ y, wr = ext w y) ∧ Hid ((a.drop k).all (rowB n) = a.all (rowB n))) (fun _ i _ => a.length - (intOf i).toNat)
  case atStart => exact ⟨0, [], rfl, by omega, SV.nil, by simp, by simp, hx1, Lib.hid (by simp)⟩
  case round =>
    obtain ⟨k, F, rfl, hk, hS, hN, hF, hy, Hj⟩ := hrel
    have HS := Lib.hid hS
    have HN := Lib.hid hN
    have HF := Lib.hid hF
    have HY := Lib.hid hy
    have h1' := h1.toExt hy
    have h2' := h2.toExt hy
    clear hN hF
    by_cases hlt : k < a.length
    · have hkb : k < b.length := by omega
      obtain ⟨ba, oa, Ar, cr, rfl, hba, hca, hvr⟩ := h1'.atV hlt
      have hrl := HL.out a[k] (List.getElem_mem hlt)
      have ej := Hj.out
      rw [all_step hlt] at ej
      by_cases hlm : a[k].length = n
      · rw [rowB_eq hlm] at ej
        have q1 : ((a[k].length : Int) != (b.length : Int)) = false := by simp [hlm, HB.out]
        have l1 : a[k].length ≤ n := Nat.le_of_eq hlm
        have l2 : n ≤ a[k].length := Nat.le_of_eq hlm.symm
        clear hlm
        cases hvk : allV a[k] with
        | false =>
          rw [hvk, Bool.false_and] at ej
          have HE := Lib.hid (sysB_f4 (show a.all (rowB b.length) = false by rw [HB.out]; exact ej.symm))
          have HVK := Lib.hid hvk
          clear ej hvk hS
          go_wp2_with (go_at_call 49; refine (allValid_any hrl (hvr.toExt (by refine x'z ?_; repeat (with_reducible (first | exact x'a _ _ | exact x'b _ | exact x'c (by assumption) | refine x'd ?_ (by assumption) | refine x'e ?_ _ | refine x'f ?_ _ | refine x'g ?_ | refine x'h ?_ ?_ _ | refine x'i ?_ _ | refine x'j ?_ | refine x'k ?_ _ | refine x'l ?_ _ _ | refine x'm ?_ | assumption | (refine x'n ?_; omega) | omega))))).mono ?_; rintro e w3 ⟨rfl, hx3⟩; rw [HVK.out])
          go_ret2
          exact ⟨_, [], by rw [HE.out]; rfl, (by refine x'z ?_; repeat (with_reducible (first | exact x'a _ _ | exact x'b _ | exact x'c (by assumption) | refine x'd ?_ (by assumption) | refine x'e ?_ _ | refine x'f ?_ _ | refine x'g ?_ | refine x'h ?_ ?_ _ | refine x'i ?_ _ | refine x'j ?_ | refine x'k ?_ _ | refine x'l ?_ _ _ | refine x'm ?_ | assumption | (refine x'n ?_; omega) | omega))), by rw [HE.out]; exact SV.nil, by simp⟩
        | true =>
          rw [hvk, Bool.true_and] at ej
          have HJ := Lib.hid ej
          have HVK := Lib.hid hvk
          clear ej hvk
          have hAr : Ar = none → cr = 0 := fun e => by
            obtain ⟨_, _, e2, _⟩ := hvr (by intro e0; rw [e0] at l2; simp at l2; omega)
            rw [e] at e2; cases e2
          have HAr := Lib.hid hAr
          obtain ⟨br, or, rfl, hbr, hcr, hcr'⟩ := h2'.atR hkb
          clear hAr
          go_wp2_with (go_at_call 49; refine (allValid_any hrl (hvr.toExt (by refine x'z ?_; repeat (with_reducible (first | exact x'a _ _ | exact x'b _ | exact x'c (by assumption) | refine x'd ?_ (by assumption) | refine x'e ?_ _ | refine x'f ?_ _ | refine x'g ?_ | refine x'h ?_ ?_ _ | refine x'i ?_ _ | refine x'j ?_ | refine x'k ?_ _ | refine x'l ?_ _ _ | refine x'm ?_ | assumption | (refine x'n ?_; omega) | omega))))).mono ?_; rintro e w3 ⟨rfl, hx3⟩; rw [HVK.out])
          have hS3 := HS.out.toExt hx3
          have hvr3 := hvr.toExt hx3
          have hbr3 := Nat.lt_of_lt_of_le hbr (size_of_ext hx3)
          have hk3 : w3.cell? ⟨br, or + k * 2, none⟩ = some (.int .i64 b[k].1) := by obtain ⟨y3, e3⟩ := hx3; rw [e3, cell_ext hbr]; exact hcr
          have hk3' : w3.cell? ⟨br, or + k * 2 + 1, none⟩ = some (.int .i64 b[k].2) := by obtain ⟨y3, e3⟩ := hx3; rw [e3, cell_ext hbr]; exact hcr'
          have hlo := HS.out.lt
          have HLO := Lib.hid (fun x (hx : x ∈ F) => Nat.lt_of_lt_of_le (hlo x hx) (size_of_ext hx3))
          have HAU := Lib.hid (augL_take hlt hkb)
          have hlk : (augL (a.take k) (b.take k)).length + 1 ≤ 2000000000 := by rw [augL_length (by omega) (by omega)]; omega
          have hrk : a[k].length + 1 ≤ 2000000000 := by omega
          have hbrF : br ∉ F := fun h => by
            have q := HF.out br h
            obtain ⟨bb, _, eb, hbb, _⟩ := h2 (by intro e0; rw [e0] at hkb; simp at hkb)
            injection eb with eb
            injection eb with eb
            omega
          clear hS hlo hca hba hcr hcr' hvr hbr
          go_region_held3 (fun w' => w'.cell? ⟨br, or + k * 2, none⟩ = some (.int .i64 b[k].1) ∧ w'.cell? ⟨br, or + k * 2 + 1, none⟩ = some (.int .i64 b[k].2)) (first | go_keep)
            (first
              | (refine step_appB (E := sR) (d := b[k]) (G := []) (cs := #[.int .i64 b[k].1, .int .i64 b[k].2]) (by rfl) _ _ _ (by rfl) tR (by rfl) (by rfl) (by first | exact BoxAt.new _ _ _ | exact BoxAt.toExt (BoxAt.new w3.drew _ _) hx4) (by exact ⟨rfl, rfl⟩) (by rfl) (by simp [Value.oneCell']) (by first | exact hSc | exact hSc.toExt (alloc_ext _ _)) (by simpa using hSc.nodup) hrk (by omega) ?_; intro v5 w5 F5 hS5 hC5 hN5 hF5; (obtain ⟨A5, c5, rfl, _, _⟩ := hS5.form; rw [show (a[k] ++ [b[k]]).length = a[k].length + 1 by simp] at hS5 ⊢; have nb : br ∉ F4 := (fun h => by have q := hF4 br h; first | omega | (simp at q; omega)); have k5 : w5.cell? ⟨br, or + k * 2, none⟩ = some (.int .i64 b[k].1) := (by rw [hC5.cell nb (by first | omega | (simp; omega))]; go_simp); have k5' : w5.cell? ⟨br, or + k * 2 + 1, none⟩ = some (.int .i64 b[k].2) := (by rw [hC5.cell nb (by first | omega | (simp; omega))]; go_simp); have l5 : br < w5.heap.size := Nat.lt_of_lt_of_le (by first | omega | (simp; omega)) hC5.size; have hF43 : ∀ x ∈ F4, w3.heap.size ≤ x := (fun x h => by have q := hF4 x h; first | omega | (simp at q; omega)); have hx5 : ∃ y, w5 = ext w3 y := hC5.isExt (by refine x'z ?_; repeat (with_reducible (first | exact x'a _ _ | exact x'b _ | exact x'c (by assumption) | refine x'd ?_ (by assumption) | refine x'e ?_ _ | refine x'f ?_ _ | refine x'g ?_ | refine x'h ?_ ?_ _ | refine x'i ?_ _ | refine x'j ?_ | refine x'k ?_ _ | refine x'l ?_ _ _ | refine x'm ?_ | assumption | (refine x'n ?_; omega) | omega))) hF43; have hF53 : ∀ x ∈ F5, w3.heap.size ≤ x := (fun x h => by rcases hF5 x h with q | q | q; exact hF43 x q; simp at q; exact Nat.le_trans (size_of_ext (by refine x'z ?_; repeat (with_reducible (first | exact x'a _ _ | exact x'b _ | exact x'c (by assumption) | refine x'd ?_ (by assumption) | refine x'e ?_ _ | refine x'f ?_ _ | refine x'g ?_ | refine x'h ?_ ?_ _ | refine x'i ?_ _ | refine x'j ?_ | refine x'k ?_ _ | refine x'l ?_ _ _ | refine x'm ?_ | assumption | (refine x'n ?_; omega) | omega)))) q); have hM5 := hS3.toExt hx5; have hN56 := nodup_more HN.out hN5 HLO.out hF53))
              | (refine step_appB (E := sSl 67 2 sR) (d := a[k] ++ [b[k]]) (G := F5) (cs := #[.slice A5 (a[k].length + 1) c5]) (by rfl) _ _ _ (by rfl) tRRr (by rfl) (by rfl) (by exact BoxAt.new _ _ _) (by exact ⟨_, rfl, hS5.toExt (alloc_ext _ _)⟩) (by rfl) (by simp [Value.oneCell']) (hM5.toExt (alloc_ext _ _)) hN56 hlk (by omega) ?_; intro v6 w6 F6 hS6 hC6 hN6 hF6; have k6 : w6.cell? ⟨br, or + k * 2, none⟩ = some (.int .i64 b[k].1) := (by rw [hC6.cell hbrF (by simp; omega)]; go_simp); have k6' : w6.cell? ⟨br, or + k * 2 + 1, none⟩ = some (.int .i64 b[k].2) := (by rw [hC6.cell hbrF (by simp; omega)]; go_simp))
              | (go_at_call 50; refine (copyRationals_any (by omega) HAr.out (hvr3.toExt (by refine x'z ?_; repeat (with_reducible (first | exact x'a _ _ | exact x'b _ | exact x'c (by assumption) | refine x'd ?_ (by assumption) | refine x'e ?_ _ | refine x'f ?_ _ | refine x'g ?_ | refine x'h ?_ ?_ _ | refine x'i ?_ _ | refine x'j ?_ | refine x'k ?_ _ | refine x'l ?_ _ _ | refine x'm ?_ | assumption | (refine x'n ?_; omega) | omega))))).mono ?_; rintro e w4 ⟨v4, F4, rfl, hx4, hSc, hF4⟩; obtain ⟨A4, c4, rfl, _, _⟩ := hSc.form; have hb4 : br < w4.heap.size := Nat.lt_of_lt_of_le hbr3 (size_of_ext (by refine x'z ?_; repeat (with_reducible (first | exact x'a _ _ | exact x'b _ | exact x'c (by assumption) | refine x'd ?_ (by assumption) | refine x'e ?_ _ | refine x'f ?_ _ | refine x'g ?_ | refine x'h ?_ ?_ _ | refine x'i ?_ _ | refine x'j ?_ | refine x'k ?_ _ | refine x'l ?_ _ _ | refine x'm ?_ | assumption | (refine x'n ?_; omega) | omega)))); have hz4 : w3.heap.size ≤ w4.heap.size := size_of_ext (by refine x'z ?_; repeat (with_reducible (first | exact x'a _ _ | exact x'b _ | exact x'c (by assumption) | refine x'd ?_ (by assumption) | refine x'e ?_ _ | refine x'f ?_ _ | refine x'g ?_ | refine x'h ?_ ?_ _ | refine x'i ?_ _ | refine x'j ?_ | refine x'k ?_ _ | refine x'l ?_ _ _ | refine x'm ?_ | assumption | (refine x'n ?_; omega) | omega))); have hx43 : ∃ y, w4 = ext w3 y := (by refine x'z ?_; repeat (with_reducible (first | exact x'a _ _ | exact x'b _ | exact x'c (by assumption) | refine x'd ?_ (by assumption) | refine x'e ?_ _ | refine x'f ?_ _ | refine x'g ?_ | refine x'h ?_ ?_ _ | refine x'i ?_ _ | refine x'j ?_ | refine x'k ?_ _ | refine x'l ?_ _ _ | refine x'm ?_ | assumption | (refine x'n ?_; omega) | omega))); have k4 : w4.cell? ⟨br, or + k * 2, none⟩ = some (.int .i64 b[k].1) := (by obtain ⟨y4, e4⟩ := hx43; rw [e4, cell_ext hbr3]; exact hk3); have k4' : w4.cell? ⟨br, or + k * 2 + 1, none⟩ = some (.int .i64 b[k].2) := (by obtain ⟨y4, e4⟩ := hx43; rw [e4, cell_ext hbr3]; exact hk3')))
          all_goals
            have hx6 : ∃ y, w6 = ext w y := hC6.isExt (trans_ext HY.out (trans_ext hx3 (by refine x'z ?_; repeat (with_reducible (first | exact x'a _ _ | exact x'b _ | exact x'c (by assumption) | refine x'd ?_ (by assumption) | refine x'e ?_ _ | refine x'f ?_ _ | refine x'g ?_ | refine x'h ?_ ?_ _ | refine x'i ?_ _ | refine x'j ?_ | refine x'k ?_ _ | refine x'l ?_ _ _ | refine x'm ?_ | assumption | (refine x'n ?_; omega) | omega))))) HF.out
            have hF6' : ∀ x ∈ F6, w.heap.size ≤ x := fun x h => by
              rcases hF6 x h with q | q | q
              · exact HF.out x q
              · exact Nat.le_trans (size_of_ext (trans_ext HY.out hx3)) (hF53 x q)
              · exact Nat.le_trans (size_of_ext (trans_ext HY.out (trans_ext hx3 (by refine x'z ?_; repeat (with_reducible (first | exact x'a _ _ | exact x'b _ | exact x'c (by assumption) | refine x'd ?_ (by assumption) | refine x'e ?_ _ | refine x'f ?_ _ | refine x'g ?_ | refine x'h ?_ ?_ _ | refine x'i ?_ _ | refine x'j ?_ | refine x'k ?_ _ | refine x'l ?_ _ _ | refine x'm ?_ | assumption | (refine x'n ?_; omega) | omega)))))) q
            go_wp2
            exact ⟨⟨k + 1, F6, by go_num, hlt, by rw [HAU.out]; exact hS6, hN6, hF6', hx6, HJ⟩, mea hlt⟩
      · rw [rowB_len hlm, Bool.false_and] at ej
        have q1 : ((a[k].length : Int) != (b.length : Int)) = true := by simp [HB.out]; omega
        have HE := Lib.hid (sysB_f4 (show a.all (rowB b.length) = false by rw [HB.out]; exact ej.symm))
        clear ej hlm hS
        go_wp2
        go_ret2
        exact ⟨_, [], by rw [HE.out]; rfl, (by refine x'z ?_; repeat (with_reducible (first | exact x'a _ _ | exact x'b _ | exact x'c (by assumption) | refine x'd ?_ (by assumption) | refine x'e ?_ _ | refine x'f ?_ _ | refine x'g ?_ | refine x'h ?_ ?_ _ | refine x'i ?_ _ | refine x'j ?_ | refine x'k ?_ _ | refine x'l ?_ _ _ | refine x'm ?_ | assumption | (refine x'n ?_; omega) | omega))), by rw [HE.out]; exact SV.nil, by simp⟩
    · have ej := Hj.out
      rw [all_endk hlt] at ej
      have HE := Lib.hid (sysB_t (a := a) HB.out hn HA.out HV.out ej.symm)
      have e1 : a.take k = a := List.take_of_length_le (by omega)
      have e2 : b.take k = b := List.take_of_length_le (by omega)
      rw [e1, e2] at hS HS
      have hml : (augL a b).length = n := by have := augL_length (a := a) (b := b) (k := k) (by omega) (by omega); rw [e1, e2] at this; omega
      have HR0 := Lib.hid (augL_rows (b := b) ej.symm)
      obtain ⟨A7, c7, e7, hc7, _⟩ := hS.form
      rw [hml] at e7 hc7
      subst e7
      have hm1 : (augL a b).length ≤ n := Nat.le_of_eq hml
      have hm2 : n ≤ (augL a b).length := Nat.le_of_eq hml.symm
      clear ej e1 e2 hml hS hy Hj h1 h2 h1' h2'
      go_wp2
      clear hk hlt
      go_loopw [10] (fun i wr => ∃ (p : Nat) (ds : List (List Q2)) (F : List Nat), i = .int .i64 p ∧ p ≤ n ∧ ds.length ≤ n ∧ n ≤ ds.length ∧ SV 26 1 (sSl 67 2 sR) wr (.slice A7 n c7) ds F ∧ F.Nodup ∧ (∀ b ∈ F, w.heap.size ≤ b) ∧ (∃ y, wr = ext w y) ∧ Hid (∀ r ∈ ds, r.length = n + 1) ∧ Hid (solS n (n - p) p ds = solS n n 0 (augL a b))) (fun i _ => n - (intOf i).toNat)
      case atStart => exact ⟨0, augL a b, F, rfl, by omega, hm1, hm2, HS.out, HN.out, HF.out, HY.out, HR0, Lib.hid rfl⟩
      case round =>
        clear HS HN HF HY HR0
        obtain ⟨p, ds, F, rfl, hp, hd1, hd2, hS, hN, hF, hy, HR, Hj⟩ := hrel
        have HS := Lib.hid hS
        have HN := Lib.hid hN
        have HF := Lib.hid hF
        have HY := Lib.hid hy
        clear hN hF hy
        by_cases hlt : p < n
        · have hpd : p < ds.length := Nat.lt_of_lt_of_le hlt hd2
          obtain ⟨g, cap, hA, hgF, _, _⟩ := hS.block (by intro e; rw [e] at hpd; simp at hpd)
          have hA7 := sl_blk7 hA
          clear hA
          subst hA7
          go_wp2
          go_loop [11] (fun i => ∃ k : Nat, i = .int .i64 k ∧ p ≤ k ∧ k ≤ n ∧ Hid (pivS p ds (n - k) k = pivS p ds (n - p) p)) (fun i => n - (intOf i).toNat)
          case atStart => exact ⟨p, rfl, by omega, by omega, Lib.hid rfl⟩
          case round =>
            obtain ⟨k, rfl, hpk, hk, Hk⟩ := hrel
            by_cases hkn : k < n
            · have hkd : k < ds.length := Nat.lt_of_lt_of_le hkn hd2
              obtain ⟨vk, Gk, hgw, hck, hfz, hvk, _, _, _, _, _, _⟩ := hS.row HN.out hkd
              have lk1 : ds[k].length ≤ n + 1 := Nat.le_of_eq (HR.out ds[k] (List.getElem_mem hkd))
              have lk2 : n + 1 ≤ ds[k].length := Nat.le_of_eq (HR.out ds[k] (List.getElem_mem hkd)).symm
              obtain ⟨Ak, ck, rfl, _, _⟩ := hvk.form
              have hpk2 : p < ds[k].length := Nat.lt_of_lt_of_le (Nat.lt_succ_of_lt hlt) lk2
              obtain ⟨bk, ok, rfl, hbk, hak, hak'⟩ := (hvk.toView sR_v).atR hpk2
              clear hvk hfz
              by_cases hz : ds[k][p].1 = 0
              · have q2 : (ds[k][p].1 == 0) = true := by simp [hz]
                have HK2 := Lib.hid ((pivS_go hkn (by rw [gr_at hkd, gq_at hpk2]; exact hz)).symm.trans Hk.out)
                clear hz
                go_wp2
                exact ⟨⟨k + 1, by go_num, Nat.le_succ_of_le hpk, hkn, HK2⟩, mea hkn⟩
              · have q2 : (ds[k][p].1 == 0) = false := by simp [hz]
                have q3 : ((k : Int) == (b.length : Int)) = false := by rw [beq_eq_false_iff_ne]; omega
                have HK2 := Lib.hid ((pivS_hit hkn (by rw [gr_at hkd, gq_at hpk2]; exact hz)).symm.trans Hk.out)
                clear hz hS
                go_wp2_with fail
                clear hck hbk hak hak'
                have hS2 := HS.out.toExt (drew_ext wr)
                obtain ⟨vp, Gp, hgw, hcp, hfz, hvp, _⟩ := HS.out.row HN.out hpd
                obtain ⟨vk, Gk, _, hck, _, hvk, _⟩ := HS.out.row HN.out hkd
                obtain ⟨Ap, cp, rfl, _, _⟩ := hvp.form
                obtain ⟨Ak, ck, rfl, _, _⟩ := hvk.form
                obtain ⟨F2, hS3, hN3, hF3, hC3⟩ := hS2.swap HN.out hpd hkd (by simpa using hcp) (by simpa using hck)
                have HS3 := Lib.hid hS3
                have HN3 := Lib.hid hN3
                have HF3 := Lib.hid hF3
                have HX3 := Lib.hid (hC3.isExt (trans_ext HY.out (drew_ext wr)) (fun x hx => by rw [List.mem_singleton.1 hx]; exact HF.out g hgF))
                have HSW : Hid (∀ m', stepS p n 0 ((ds.set p ds[k]).set k ds[p]) = some m' → solS n (n - (p + 1)) (p + 1) m' = solS n n 0 (augL a b)) := Lib.hid (fun m' hm => by
                  have e0 : swapL p (pivS p ds (n - p) p) ds = (ds.set p ds[k]).set k ds[p] := by rw [← HK2.out]; unfold swapL; rw [gr_at hkd, gr_at hpd]
                  rw [← Hj.out]
                  exact (solS_go hlt (by rw [← HK2.out]; omega) (by rw [e0]; exact hm)).symm)
                have HSN : Hid (stepS p n 0 ((ds.set p ds[k]).set k ds[p]) = none → solR a b = none) := Lib.hid (fun hm => by
                  have e0 : swapL p (pivS p ds (n - p) p) ds = (ds.set p ds[k]).set k ds[p] := by rw [← HK2.out]; unfold swapL; rw [gr_at hkd, gr_at hpd]
                  rw [HE.out]
                  unfold solM
                  rw [← Hj.out, solS_step0 hlt (by rw [← HK2.out]; omega) (by rw [e0]; exact hm)])
                have HRS : Hid (∀ r ∈ (ds.set p ds[k]).set k ds[p], r.length = n + 1) := Lib.hid (fun r hr => by
                  rcases List.mem_or_eq_of_mem_set hr with h | h
                  · rcases List.mem_or_eq_of_mem_set h with h | h
                    · exact HR.out r h
                    · rw [h]; exact HR.out _ (List.getElem_mem hkd)
                  · rw [h]; exact HR.out _ (List.getElem_mem hpd))
                have hsl1 : ((ds.set p ds[k]).set k ds[p]).length ≤ n := by simpa using hd1
                have hsl2 : n ≤ ((ds.set p ds[k]).set k ds[p]).length := by simpa using hd2
                have hcp0 := hcp
                clear hS2 hvp hvk hS3 hN3 hF3 hC3
                go_cut [] (fun wx => ∃ F2, SV 26 1 (sSl 67 2 sR) wx (.slice (some ⟨g, 0, none⟩) n c7) ((ds.set p ds[k]).set k ds[p]) F2 ∧ F2.Nodup ∧ (∀ x ∈ F2, x ∈ F) ∧ ∃ y, wx = ext w y)
                case first =>
                  by_cases hpk2 : p = k
                  · subst hpk2
                    rw [hcp] at hck
                    injection hck with hck
                    injection hck with hk1 _ hk3
                    subst hk1 hk3
                    go_region_with (fail)
                    all_goals
                      go_wp2_with fail
                      go_meet
                      exact ⟨F2, HS3.out, HN3.out, HF3.out, HX3.out⟩
                  · have hpk3 : k ≠ p := fun e => hpk2 e.symm
                    go_region_with (fail)
                    all_goals
                      go_wp2_with fail
                      go_meet
                      exact ⟨F2, HS3.out, HN3.out, HF3.out, HX3.out⟩
                clear HS3 HN3 HF3 HX3 hcp hck hcp0 hfz hgw
                obtain ⟨F2, hS3, hN3, hF3, hX3⟩ := hcut
                obtain ⟨W0, rfl⟩ : ∃ W, W = wc := ⟨_, rfl⟩
                have HS3 := Lib.hid hS3
                have HN3 := Lib.hid hN3
                have HF3 : Hid (∀ x ∈ F2, w.heap.size ≤ x) := Lib.hid (fun x hx => HF.out x (hF3 x hx))
                have HX3 := Lib.hid hX3
                clear hS3 hN3 hF3 hX3 HS HN HF HY
                obtain ⟨sw, hsw⟩ : ∃ s, (ds.set p ds[k]).set k ds[p] = s := ⟨_, rfl⟩
                rw [hsw] at HSW HSN HRS hsl1 hsl2 HS3
                clear hsw
                go_wp2
                go_loopw [12] (fun i vs => ∃ (q : Nat) (es : List (List Q2)), i = .int .i64 q ∧ q ≤ n ∧ es.length ≤ n ∧ n ≤ es.length ∧ SV 26 1 (sSl 67 2 sR) vs (.slice (some ⟨g, 0, none⟩) n c7) es F2 ∧ Chg F2 W0 vs ∧ Hid (∀ r ∈ es, r.length = n + 1) ∧ Hid (stepS p (n - q) q es = stepS p n 0 sw)) (fun i _ => n - (intOf i).toNat)
                case atStart => exact ⟨0, sw, rfl, by omega, hsl1, hsl2, HS3.out, Chg.refl F2 W0, HRS, Lib.hid rfl⟩
                case round => as_aux_lemma =>
                  clear HS3 HRS HR
                  obtain ⟨q, es, rfl, hq, he1, he2, hSq, hCq, HR, Hs⟩ := hrel
                  have HSq := Lib.hid hSq
                  have HCq := Lib.hid hCq
                  clear hCq
                  by_cases hlt2 : q < n
                  · have hqd : q < es.length := Nat.lt_of_lt_of_le hlt2 he2
                    have hpe : p < es.length := Nat.lt_of_lt_of_le hlt he2
                    by_cases hqp : q = p
                    · have q5 : ((q : Int) != (p : Int)) = false := by simp [hqp]
                      have HJ2 := Lib.hid ((stepS_skip hlt2 (.inl hqp)).symm.trans Hs.out)
                      clear hqp hSq
                      go_upto_region 24 with fail
                      refine sol24_A q5 ?_
                      intro x104 x105 x106 x107 x108 x109 x110 x111 x112 x113 x114 x115 x116 x117 x118 x119 x120 x121 x122 x123 x124 x125 x126 x127 x128 x129 w3 hw3
                      subst hw3
                      all_goals
                        go_wp2
                        exact ⟨⟨q + 1, es, by go_num, hlt2, he1, he2, HSq.out.toExt (drew_ext _), HCq.out.drew, HR, HJ2⟩, mea hlt2⟩
                    · have q5 : ((q : Int) != (p : Int)) = true := by simp; omega
                      obtain ⟨Ap, cp, Ak, ck, Gp, Gk, hcp, hck, hvp, hvk, hdj, hGF, hgk, hgw, _⟩ := two_rows (te2 := 67) hSq HN3.out hpe hqd hqp
                      have lp1 : es[p].length ≤ n + 1 := Nat.le_of_eq (HR.out es[p] (List.getElem_mem hpe))
                      have lp2 : n + 1 ≤ es[p].length := Nat.le_of_eq (HR.out es[p] (List.getElem_mem hpe)).symm
                      have lk1 : es[q].length ≤ n + 1 := Nat.le_of_eq (HR.out es[q] (List.getElem_mem hqd))
                      have lk2 : n + 1 ≤ es[q].length := Nat.le_of_eq (HR.out es[q] (List.getElem_mem hqd)).symm
                      have hpq : p < es[q].length := Nat.lt_of_lt_of_le (Nat.lt_succ_of_lt hlt) lk2
                      have hpp : p < es[p].length := Nat.lt_of_lt_of_le (Nat.lt_succ_of_lt hlt) lp2
                      obtain ⟨bk, ok, rfl, hbk, hak, hak'⟩ := (hvk.toView sR_v).atR hpq
                      have HVP := Lib.hid hvp
                      have HVK := Lib.hid hvk
                      have HDJ := Lib.hid hdj
                      clear hvp hvk hdj hSq
                      by_cases hz : es[q][p].1 = 0
                      · have q6 : (es[q][p].1 != 0) = false := by simp [hz]
                        have HJ2 := Lib.hid ((stepS_skip hlt2 (.inr (by rw [gr_at hqd, gq_at hpq]; exact hz))).symm.trans Hs.out)
                        clear hz
                        go_upto_region 24 with fail
                        refine sol24_B q5 hlt2 hpq hck hak q6 ?_
                        intro x104 x105 x106 x107 x108 x109 x110 x111 x112 x113 x114 x115 x116 x117 x118 x119 x120 x121 x122 x123 x124 x125 x126 x127 x128 x129 w3 hw3
                        subst hw3
                        all_goals
                          go_wp2
                          exact ⟨⟨q + 1, es, by go_num, hlt2, he1, he2, HSq.out.toExt (drew_ext _), HCq.out.drew, HR, HJ2⟩, mea hlt2⟩
                      · have q6 : (es[q][p].1 != 0) = true := by simp [hz]
                        have hno : ¬ (q = p ∨ (gq (gr es q) p).1 = 0) := by
                          rw [gr_at hqd, gq_at hpq]
                          exact fun h => h.elim hqp hz
                        obtain ⟨oe, hoe⟩ : ∃ o, elimR p es[p] es[q] = o := ⟨_, rfl⟩
                        have HOE := Lib.hid hoe
                        have HNO := Lib.hid hno
                        clear hz hno hoe
                        cases oe with
                        | none =>
                          have HE3 := Lib.hid (HSN.out (by rw [← Hs.out]; exact stepS_none hlt2 HNO.out (by rw [gr_at hqd, gr_at hpe]; exact HOE.out)))
                          go_upto_region 24 with fail
                          refine sol24_C q5 hlt2 hpq hck hak hlt hcp q6 (R := fun w3 => Chg Gk wr.drew w3 ∧ ∀ r, elimR p es[p] es[q] = some r → SV 67 2 sR w3 (.slice (some ⟨bk, ok, none⟩) es[q].length ck) r Gk) (eliminate_any (HVK.out.toExt (drew_ext _)) (HVP.out.toExt (drew_ext _)) HDJ.out (le_1000 lk1 hn) (Nat.le_trans lk1 lp2) (Nat.le_trans lp1 lk2) hpq) ?_ ?_ ?_
                          · rintro w3 ⟨hC3, _⟩
                            rw [hC3.cell hgk (by simpa using hgw)]; simpa using hck
                          · rintro w3 ⟨hC3, _⟩
                            rw [hC3.cell hgk (by simpa using hgw)]; simpa using hcp
                          rintro x104 x105 x106 x107 x108 x109 x110 x111 x112 x113 x114 x115 x116 x117 x118 x119 x120 x121 x122 x123 x124 x125 x126 x127 x128 x129 w3 ⟨hC3, hS3⟩
                          rw [HOE.out]
                          simp only [Option.isSome_none, Bool.not_false]
                          all_goals
                            go_wp2
                            go_ret2
                            exact ⟨_, [], by rw [HE3.out]; rfl, (((HCq.out.drew).trans hC3 (fun x hx => .inl (hGF x hx))).isExt HX3.out HF3.out), by rw [HE3.out]; exact SV.nil, by simp⟩
                        | some r =>
                          have HJ2 := Lib.hid ((stepS_go hlt2 HNO.out (by rw [gr_at hqd, gr_at hpe]; exact HOE.out)).symm.trans Hs.out)
                          have hrl := elimR_len HOE.out
                          have HR2 : Hid (∀ r' ∈ es.set q r, r'.length = n + 1) := Lib.hid (fun r' hr => by
                            rcases List.mem_or_eq_of_mem_set hr with h | h
                            · exact HR.out r' h
                            · rw [h, hrl]; omega)
                          clear hrl
                          go_upto_region 24 with fail
                          refine sol24_C q5 hlt2 hpq hck hak hlt hcp q6 (R := fun w3 => Chg Gk wr.drew w3 ∧ ∀ r, elimR p es[p] es[q] = some r → SV 67 2 sR w3 (.slice (some ⟨bk, ok, none⟩) es[q].length ck) r Gk) (eliminate_any (HVK.out.toExt (drew_ext _)) (HVP.out.toExt (drew_ext _)) HDJ.out (le_1000 lk1 hn) (Nat.le_trans lk1 lp2) (Nat.le_trans lp1 lk2) hpq) ?_ ?_ ?_
                          · rintro w3 ⟨hC3, _⟩
                            rw [hC3.cell hgk (by simpa using hgw)]; simpa using hck
                          · rintro w3 ⟨hC3, _⟩
                            rw [hC3.cell hgk (by simpa using hgw)]; simpa using hcp
                          rintro x104 x105 x106 x107 x108 x109 x110 x111 x112 x113 x114 x115 x116 x117 x118 x119 x120 x121 x122 x123 x124 x125 x126 x127 x128 x129 w3 ⟨hC3, hS3⟩
                          rw [HOE.out]
                          simp only [Option.isSome_some, Bool.not_true]
                          all_goals
                            have hS5 := hS3 r HOE.out
                            have hS6 := (HSq.out.toExt (drew_ext _)).put_row HN3.out hqd (by simpa using hck) HVK.out.plainF hS5 hC3
                            have HH := Lib.hid (And.intro hS6 ((HCq.out.drew).trans hC3 (fun x hx => .inl (hGF x hx))))
                            clear hS3 hC3 hS5 hS6
                            go_wp2
                            exact ⟨⟨q + 1, es.set q r, by go_num, hlt2, by simpa using he1, by simpa using he2, HH.out.1, HH.out.2, HR2, HJ2⟩, mea hlt2⟩
                  · have es0 := Hs.out
                    rw [stepS_end hlt2] at es0
                    have HJ2 := Lib.hid (HSW.out es es0.symm)
                    clear es0 hSq
                    go_wp2
                    exact ⟨⟨p + 1, es, F2, by go_num, hlt, he1, he2, HSq.out, HN3.out, HF3.out, HCq.out.isExt HX3.out HF3.out, HR, HJ2⟩, mea hlt⟩
            · have q3 : ((k : Int) == (b.length : Int)) = true := by simp; omega
              have HE2 := Lib.hid (show solR a b = none by
                rw [HE.out]
                unfold solM
                rw [← Hj.out, solS_none hlt (by rw [← Hk.out, pivS_end hkn]; omega)])
              clear hS
              go_wp2
              go_ret2
              exact ⟨_, [], by rw [HE2.out]; rfl, HY.out, by rw [HE2.out]; exact SV.nil, by simp⟩
        · have ej := Hj.out
          rw [solS_end hlt] at ej
          have HM := Lib.hid (show solR a b = outS n ds n 0 [] by rw [HE.out]; unfold solM; rw [← ej])
          clear ej hS
          go_wp2
          obtain ⟨W0, hW0⟩ : ∃ W, wr = W := ⟨_, rfl⟩
          rw [hW0] at HS HY ⊢
          clear hW0
          have d62 : decide (p < b.length) = false := by simp; omega
          simp only [d62]
          clear d62
          go_loopw [13, 14] (fun v i vs => ∃ (q : Nat) (out : List Q2) (G : List Nat), i = .int .i64 q ∧ q ≤ n ∧ out.length ≤ q ∧ SV 67 2 sR vs v out G ∧ (∀ b ∈ G, W0.heap.size ≤ b) ∧ (∃ y, vs = ext W0 y) ∧ Hid (outS n ds (n - q) q out = outS n ds n 0 [])) (fun _ i _ => n - (intOf i).toNat)
          case atStart => exact ⟨0, [], [], rfl, by omega, by simp, SV.nil, by simp, refl_ext W0, Lib.hid rfl⟩
          case round => as_aux_lemma =>
            obtain ⟨q, out, G, rfl, hq, hol, hO, hG, hy, Hj2⟩ := hrel
            have HO := Lib.hid hO
            have HG := Lib.hid hG
            have HY2 := Lib.hid hy
            clear hO hG hy
            by_cases hlt2 : q < n
            · have hqd : q < ds.length := Nat.lt_of_lt_of_le hlt2 hd2
              obtain ⟨g, _, hA, hgF, _, _⟩ := HS.out.block (by intro e; rw [e] at hqd; simp at hqd)
              have hA7 := sl_blk7 hA
              clear hA
              subst hA7
              have hSq := HS.out.toExt HY2.out
              obtain ⟨vq, Gq, hgw, hcq, _, hvq, _⟩ := hSq.row HN.out hqd
              obtain ⟨Aq, cq, rfl, _, _⟩ := hvq.form
              have lq1 : ds[q].length ≤ n + 1 := Nat.le_of_eq (HR.out ds[q] (List.getElem_mem hqd))
              have lq2 : n + 1 ≤ ds[q].length := Nat.le_of_eq (HR.out ds[q] (List.getElem_mem hqd)).symm
              have hqq : q < ds[q].length := Nat.lt_of_lt_of_le (Nat.lt_succ_of_lt hlt2) lq2
              have hqn : n < ds[q].length := lq2
              have hqb : b.length < ds[q].length := Nat.lt_of_le_of_lt hb1 lq2
              obtain ⟨bq, oq, rfl, hbq, haq, haq'⟩ := (hvq.toView sR_v).atR hqq
              obtain ⟨bq2, oq2, e2, _, haz, haz'⟩ := (hvq.toView sR_v).atR hqb
              injection e2 with e2
              injection e2 with e2 e2'
              subst e2 e2'
              obtain ⟨od, hod⟩ : ∃ o, divR ds[q][b.length] ds[q][q] = o := ⟨_, rfl⟩
              have HD := Lib.hid hod
              have HO2 : Hid (divR (gq (gr ds q) n) (gq (gr ds q) q) = od) := Lib.hid (by
                rw [gr_at hqd, gq_at hqn, gq_at hqq, ← hod]
                congr 1
                simp only [HB.out])
              clear hod hvq hSq
              go_wp2_with fail
              go_upto_region 30 with fail
              go_cut [15, 16] (fun vA vB wx => ∃ b, vA = .pointer (some ⟨b, 0, none⟩) ∧ vB = .bool (od).isSome ∧ BoxAt wx b #[.int .i64 ((od).getD (0, 0)).1, .int .i64 ((od).getD (0, 0)).2] ∧ wr.heap.size ≤ b ∧ ∃ y, wx = ext wr y)
              case first =>
                go_region_held3 (fun w' => (∀ a : Addr, a.block < wr.heap.size → w'.cell? a = wr.cell? a) ∧ ∃ y, w' = ext wr y) (first | exact heldE (by refine x'z ?_; repeat (with_reducible (first | exact x'a _ _ | exact x'b _ | exact x'c (by assumption) | refine x'd ?_ (by assumption) | refine x'e ?_ _ | refine x'f ?_ _ | refine x'g ?_ | refine x'h ?_ ?_ _ | refine x'i ?_ _ | refine x'j ?_ | refine x'k ?_ _ | refine x'l ?_ _ _ | refine x'm ?_ | assumption | (refine x'n ?_; omega) | omega)))) (first | (go_at_call 52; refine (DivRational_any).mono ?_; rintro e w3 ⟨rfl, hxw3⟩; rw [HD.out]; try (obtain ⟨_, l4, b4, b4', f4⟩ := box2 (BoxAt.toExt (BoxAt.new wr _ _).drew hxw3))))
                all_goals
                  go_wp2_with fail
                  go_meet
                  (first | exact ⟨wr.heap.size, rfl, rfl, (by (repeat (with_reducible (first | assumption | exact BoxAt.new _ _ _ | apply BoxAt.set2 | refine BoxAt.set2' ?_ (by omega) | apply BoxAt.setP0 | apply BoxAt.setP1 | refine BoxAt.setO ?_ (by omega) | refine BoxAt.alloc ?_ _ | refine BoxAt.drew ?_ | refine BoxAt.toExt ?_ (by assumption)))); done), Nat.le_refl _, (by refine x'z ?_; repeat (with_reducible (first | exact x'a _ _ | exact x'b _ | exact x'c (by assumption) | refine x'd ?_ (by assumption) | refine x'e ?_ _ | refine x'f ?_ _ | refine x'g ?_ | refine x'h ?_ ?_ _ | refine x'i ?_ _ | refine x'j ?_ | refine x'k ?_ _ | refine x'l ?_ _ _ | refine x'm ?_ | assumption | (refine x'n ?_; omega) | omega)))⟩ | exact ⟨w3.heap.size, rfl, rfl, (by (repeat (with_reducible (first | assumption | exact BoxAt.new _ _ _ | apply BoxAt.set2 | refine BoxAt.set2' ?_ (by omega) | apply BoxAt.setP0 | apply BoxAt.setP1 | refine BoxAt.setO ?_ (by omega) | refine BoxAt.alloc ?_ _ | refine BoxAt.drew ?_ | refine BoxAt.toExt ?_ (by assumption)))); done), size_of_ext (by refine x'z ?_; repeat (with_reducible (first | exact x'a _ _ | exact x'b _ | exact x'c (by assumption) | refine x'd ?_ (by assumption) | refine x'e ?_ _ | refine x'f ?_ _ | refine x'g ?_ | refine x'h ?_ ?_ _ | refine x'i ?_ _ | refine x'j ?_ | refine x'k ?_ _ | refine x'l ?_ _ _ | refine x'm ?_ | assumption | (refine x'n ?_; omega) | omega))), (by refine x'z ?_; repeat (with_reducible (first | exact x'a _ _ | exact x'b _ | exact x'c (by assumption) | refine x'd ?_ (by assumption) | refine x'e ?_ _ | refine x'f ?_ _ | refine x'g ?_ | refine x'h ?_ ?_ _ | refine x'i ?_ _ | refine x'j ?_ | refine x'k ?_ _ | refine x'l ?_ _ _ | refine x'm ?_ | assumption | (refine x'n ?_; omega) | omega)))⟩)
              obtain ⟨b15, rfl, rfl, Bb15, hb15, xW1⟩ := hcut
              obtain ⟨W1, rfl⟩ : ∃ W, W = wc := ⟨_, rfl⟩
              have HY3 := Lib.hid (trans_ext HY2.out xW1)
              have HO3 := Lib.hid (HO.out.toExt xW1)
              have hz2 := size_of_ext HY2.out
              have hz3 := size_of_ext xW1
              clear hcq hbq haq haq' haz haz' hgw
              cases od with
              | none =>
                have HE4 := Lib.hid (show solR a b = none by rw [HM.out, ← Hj2.out, outS_none hlt2 HO2.out])
                go_wp2_with fail
                go_ret2
                exact ⟨_, [], by rw [HE4.out]; rfl, trans_ext HY.out HY3.out, by rw [HE4.out]; exact SV.nil, by simp⟩
              | some x =>
                simp only [Option.getD_some, Option.isSome_some] at Bb15 ⊢
                obtain ⟨_, l15, c15, c15', f15⟩ := box2 Bb15
                have HJ3 := Lib.hid ((outS_go (out := out) hlt2 HO2.out).symm.trans Hj2.out)
                have HGO := Lib.hid HG.out
                clear Bb15 HO HD
                go_wp2_with (at_builtin; refine wpList_app1 (E := sR) (d := x) rfl _ _ _ rfl tR rfl rfl rfl (by simp) (fun _ => ⟨rfl, rfl⟩) rfl (by simp [Value.oneCell']) HO3.out (by omega) (by omega) ?_; intro v6 w6 F6 hS6 hC6 hF6)
                exact ⟨⟨q + 1, out ++ [x], F6, by go_num, by omega, by simp; omega, hS6, fun b hb => by
                  rcases hF6 b hb with h | h
                  · exact HGO.out b h
                  · omega, hC6.isExt HY3.out HGO.out, HJ3⟩, mea hlt2⟩
            · have ej := Hj2.out
              rw [outS_end hlt2] at ej
              have HM2 := Lib.hid (HM.out.trans ej.symm)
              clear ej
              go_wp2
              go_ret2
              exact ⟨_, G, by rw [HM2.out]; rfl, trans_ext HY.out HY2.out, by rw [HM2.out]; exact HO.out, fun x hx => Nat.le_trans (size_of_ext HY.out) (HG.out x hx)⟩
end Go.Proofs.Ytbjpkfgkmilkdaa
