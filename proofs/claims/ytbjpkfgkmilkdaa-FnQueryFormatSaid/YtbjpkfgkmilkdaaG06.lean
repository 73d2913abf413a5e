/- Contracts of functions that the statement reaches. -/
import Derived.Test.YtbjpkfgkmilkdaaG05
import Derived.Test.YtbjpkfgkmilkdaaG01
namespace Go.Proofs.Ytbjpkfgkmilkdaa
open Go.RowKit
theorem vix_bd {b : UInt8} {v : Int} (h : vix b = some v) : 0 ≤ v ∧ v ≤ 4 := by
  unfold vix at h
  repeat' split at h
  all_goals first | (injection h with h; omega) | cases h
theorem vix_inj {a b : UInt8} {v : Int} (h : vix a = some v) (h' : vix b = some v) : a = b := by
  unfold vix at h h'
  repeat' split at h
  all_goals first | cases h | skip
  all_goals
    repeat' split at h'
  all_goals first | cases h' | skip
  all_goals simp_all
theorem vname_eq {s : ByteArray} {i : Nat} {v : Int} (hi : i < s.size) (h0 : 0 ≤ v) (h4 : v ≤ 4) : vname v = s.extract i (i + 1) ↔ vix s[i] = some v := by
  obtain ⟨b, e1, e2, _⟩ := vix_vname h0 h4
  have e3 : bl (s.extract i (i + 1)) = [s[i]] := by
    rw [ext_bs, bl_bs, List.take_succ_eq_append_getElem (by rw [bl_length]; exact hi), List.drop_left' (by simp; rw [bl_length]; omega), bl_get s hi]
  constructor
  · intro e
    have := congrArg bl e
    rw [e1, e3] at this
    injection this with this
    rw [← this]; exact e2
  · intro e
    apply bl_inj
    rw [e1, e3, vix_inj e2 e]
def vv (b : UInt8) (k : Nat) : Int := match vix b with
  | some j => if j < k then j else -1
  | none => -1
theorem vv_zero (b : UInt8) : vv b 0 = -1 := by
  unfold vv
  cases h : vix b with
  | none => rfl
  | some j => have := vix_bd h; simp only; rw [if_neg (by simp; omega)]
theorem vv_hit {b : UInt8} {k : Nat} (h : vix b = some (k : Int)) : vv b (k + 1) = k := by
  unfold vv
  rw [h]
  simp only
  rw [if_pos (by omega)]
theorem vv_miss {b : UInt8} {k : Nat} (h : ¬ vix b = some (k : Int)) : vv b (k + 1) = vv b k := by
  unfold vv
  cases e : vix b with
  | none => rfl
  | some j =>
    have hj : j ≠ k := fun e2 => h (by rw [e, e2])
    simp only
    by_cases hlt : j < k
    · rw [if_pos hlt, if_pos (by omega)]
    · rw [if_neg hlt, if_neg (by omega)]
theorem vv_some {b : UInt8} {v : Int} (h : vix b = some v) : vv b 5 = v := by
  unfold vv
  have := vix_bd h
  rw [h]
  simp only
  rw [if_pos (by omega)]
theorem vv_none {b : UInt8} (h : vix b = none) : vv b 5 = -1 := by unfold vv; rw [h]
theorem pnG_in : ∀ {l : List UInt8} {acc r : List Int}, pnG acc l = some r → In5 acc → In5 r ∧ r.length = acc.length + l.length
  | [], acc, r, h, ha => by
    rw [pnG] at h
    injection h with h
    subst h
    exact ⟨ha, by simp⟩
  | b :: l, acc, r, h, ha => by
    rw [pnG] at h
    cases e : vix b with
    | none => rw [e] at h; cases h
    | some v =>
      rw [e] at h
      have := vix_bd e
      obtain ⟨h1, h2⟩ := pnG_in (acc := acc ++ [v]) h (fun u hu => by
        rcases List.mem_append.1 hu with hu | hu
        · exact ha u hu
        · rw [List.mem_singleton.1 hu]; exact this)
      refine ⟨h1, ?_⟩
      rw [h2]
      simp
      omega
theorem pN_in {s : ByteArray} {r : List Int} (h : pN s = some r) : In5 r ∧ r.length ≤ s.size := by
  unfold pN at h
  split at h
  · obtain ⟨h1, h2⟩ := pnG_in h (by simp [In5])
    refine ⟨h1, ?_⟩
    rw [h2]
    simp
    rw [bl_length]
    omega
  · cases h
theorem mid_step {s : ByteArray} {k : Nat} (h : k + 1 < s.size) : ((bl s).take (s.size - 1)).drop k = s[k] :: ((bl s).take (s.size - 1)).drop (k + 1) := by
  rw [List.drop_eq_getElem_cons (by simp; rw [bl_length]; omega)]
  congr 1
  rw [List.getElem_take]
  exact bl_get s (by omega)
theorem mid_end {s : ByteArray} {k : Nat} (h : ¬ k + 1 < s.size) : ((bl s).take (s.size - 1)).drop k = [] := List.drop_eq_nil_of_le (by simp; omega)
theorem bl_head {s : ByteArray} (h : 0 < s.size) : (bl s).head? = some s[0] := by
  rw [List.head?_eq_getElem?, List.getElem?_eq_getElem (by rw [bl_length]; exact h), bl_get s h]
theorem bl_last {s : ByteArray} (h : 0 < s.size) : (bl s).getLast? = some (s[s.size - 1]'(by omega)) := by
  rw [List.getLast?_eq_getElem?, List.getElem?_eq_getElem (by rw [bl_length]; omega)]
  congr 1
def PnRes (s : ByteArray) (w : World) (e : Ending) (w' : World) : Prop := ∃ v F, e = .returned (.tuple #[v, .bool (pN s).isSome]) ∧ (∃ y, w' = ext w y) ∧ SV 3 1 sI w' v ((pN s).getD []) F ∧ ∀ b ∈ F, w.heap.size ≤ b
set_option maxRecDepth 100000 in
set_option maxHeartbeats 4000000 in
theorem parseNames_any {s : ByteArray} {w : World} (hs : s.size ≤ 1000000000) : Calls Try.prog 61 #[.string s] w (PnRes s w) := by
  by_cases h2 : s.size < 2
  · have HE := Lib.hid (show pN s = none by unfold pN pnB; rw [decide_eq_false (by omega)]; rfl)
    go_enter Try.func61, Try.ntmps61
    go_wp2
    go_ret2
    show PnRes s w _ _
    exact ⟨_, [], by rw [HE.out]; rfl, (by refine x'z ?_; repeat (with_reducible (first | exact x'a _ _ | exact x'b _ | exact x'c (by assumption) | refine x'd ?_ (by assumption) | refine x'e ?_ _ | refine x'f ?_ _ | refine x'g ?_ | refine x'h ?_ ?_ _ | refine x'i ?_ _ | refine x'j ?_ | refine x'k ?_ _ | refine x'l ?_ _ _ | refine x'm ?_ | assumption | (refine x'n ?_; omega) | omega))), by rw [HE.out]; exact SV.nil, by simp⟩
  · have hp : 0 < s.size := by omega
    have i0 : (0 : Int) < (s.size : Int) := by omega
    have i1 : (0 : Int) ≤ (s.size : Int) - 1 := by omega
    have i2 : (s.size : Int) - 1 < (s.size : Int) := by omega
    have i3 : ((s.size : Int) - 1).toNat = s.size - 1 := by omega
    by_cases hc : s[0] = 40
    · have q1 := u8_bnet hc
      rw [show ((40 : UInt8).toNat : Int) = 40 from rfl] at q1
      by_cases hd : s[s.size - 1]'(by omega) = 41
      · have q2 := u8_bnet hd
        rw [show ((41 : UInt8).toNat : Int) = 41 from rfl] at q2
        have HE := Lib.hid (show pN s = pnG [] (((bl s).take (s.size - 1)).drop 1) by
          unfold pN pnB
          rw [bl_head hp, bl_last hp, hc, hd, decide_eq_true (by omega)]
          simp)
        clear hc hd
        go_enter Try.func61, Try.ntmps61
        go_wp2_with fail
        go_loopw [4, 5] (fun v i wr => ∃ (k : Nat) (acc : List Int) (F : List Nat), i = .int .i64 k ∧ 1 ≤ k ∧ k + 1 ≤ s.size ∧ acc.length ≤ k ∧ SV 3 1 sI wr v acc F ∧ (∀ b ∈ F, w.heap.size ≤ b) ∧ (∃ y, wr = ext w y) ∧ Hid (pnG acc (((bl s).take (s.size - 1)).drop k) = pN s)) (fun _ i _ => s.size - (intOf i).toNat)
        case atStart => exact ⟨1, [], [], rfl, by omega, by omega, by simp, SV.nil, by simp, refl_ext w, Lib.hid HE.out.symm⟩
        case round =>
          obtain ⟨k, acc, F, rfl, hk1, hk, hal, hS, hF, hy, Hj⟩ := hrel
          have HF := Lib.hid hF
          clear hF
          by_cases hlt : k + 1 < s.size
          · have hlt' : (k : Int) < (s.size : Int) - 1 := by omega
            have j0 : (0 : Int) ≤ (k : Int) := by omega
            have j1 : (k : Int) < (s.size : Int) := by omega
            have hks : k < s.size := by omega
            have ej := Hj.out
            rw [mid_step hlt, pnG] at ej
            obtain ⟨b, hb⟩ : ∃ b, s[k] = b := ⟨_, rfl⟩
            have HB := Lib.hid hb
            rw [hb] at ej
            have hvz := vv_zero b
            have HVZ := Lib.hid hvz
            have HS := Lib.hid hS
            have Hej := Lib.hid ej
            clear hb ej hvz hS
            go_wp2_with fail
            go_loopw [6, 7] (fun v i vs => ∃ j : Nat, i = .int .i64 j ∧ j ≤ 5 ∧ v = .int .i64 (vv b j) ∧ ∃ y, vs = ext wr y) (fun _ i _ => 5 - (intOf i).toNat)
            case atStart => exact ⟨0, rfl, by omega, by rw [HVZ.out], refl_ext wr⟩
            case round =>
              obtain ⟨j, rfl, hj5, rfl, hy2⟩ := hrel
              by_cases hjl : j < 5
              · have hve := vname_eq (v := (j : Int)) hks (by omega) (by omega)
                rw [HB.out] at hve
                by_cases hit : vix b = some (j : Int)
                · have q3 := str_beqt (hve.2 hit)
                  have HV := Lib.hid (vv_hit hit)
                  clear hve hit
                  go_wp2_with fail
                  refine wp_region_ext (by kernel_rfl) (by kernel_rfl) ?_
                  repeat (go_big_quiet_step ((go_at_call 101; exact quietS (VariableName_any _ _))))
                  refine wpQuiet_nil ?_
                  rintro _ ⟨z, rfl⟩
                  go_wp2
                  exact ⟨⟨j + 1, by go_num, by omega, by rw [HV.out], trans_ext hy2 ⟨z, rfl⟩⟩, by simp [intOf]; omega⟩
                · have q3 := str_beqf (fun e => hit (hve.1 e))
                  have HV := Lib.hid (vv_miss hit)
                  clear hve hit
                  go_wp2_with fail
                  refine wp_region_ext (by kernel_rfl) (by kernel_rfl) ?_
                  repeat (go_big_quiet_step ((go_at_call 101; exact quietS (VariableName_any _ _))))
                  refine wpQuiet_nil ?_
                  rintro _ ⟨z, rfl⟩
                  go_wp2
                  exact ⟨⟨j + 1, by go_num, by omega, by rw [HV.out], trans_ext hy2 ⟨z, rfl⟩⟩, by simp [intOf]; omega⟩
              · obtain rfl : j = 5 := by omega
                cases e : vix b with
                | none =>
                  have hv5 := vv_none e
                  rw [hv5]
                  have ej := Hej.out
                  rw [e] at ej
                  have HE2 := Lib.hid ej.symm
                  clear hv5 e ej
                  go_wp2
                  go_ret2
                  show PnRes s w _ _
                  exact ⟨_, [], by rw [HE2.out]; rfl, trans_ext hy hy2, by rw [HE2.out]; exact SV.nil, by simp⟩
                | some v =>
                  have hv5 := vv_some e
                  have hvb := vix_bd e
                  rw [hv5]
                  have ej := Hej.out
                  rw [e] at ej
                  have HE2 := Lib.hid ej
                  obtain ⟨v0, v4⟩ := hvb
                  clear hv5 e ej
                  go_wp2_with (at_builtin; refine wpList_app1 (E := sI) (d := v) rfl _ _ _ rfl tI rfl rfl rfl (by simp) (fun _ => ⟨rfl, rfl⟩) rfl (by simp [Value.oneCell']) (HS.out.toExt hy2) (by omega) (by omega) ?_; intro v' w' F' hS' hC' hF')
                  exact ⟨⟨k + 1, acc ++ [v], F', by go_num, by omega, by omega, by simp; omega, hS', newer HF.out (size_of_ext (trans_ext hy hy2)) hF', hC'.isExt (trans_ext hy hy2) HF.out, HE2⟩, by simp [intOf]; omega⟩
          · have hlt' : ¬ (k : Int) < (s.size : Int) - 1 := by omega
            have ej := Hj.out
            rw [mid_end hlt, pnG] at ej
            have HE2 := Lib.hid ej.symm
            clear ej
            go_wp2
            go_ret2
            show PnRes s w _ _
            exact ⟨_, F, by rw [HE2.out]; rfl, hy, by rw [HE2.out]; exact hS, HF.out⟩
      · have q2 := u8_bnef hd
        rw [show ((41 : UInt8).toNat : Int) = 41 from rfl] at q2
        have HE := Lib.hid (show pN s = none by
          unfold pN pnB
          rw [bl_last hp, decide_eq_false (p := some (s[s.size - 1]'(by omega)) = some 41) (by intro e; injection e with e; exact hd e)]
          simp)
        clear hc hd
        go_enter Try.func61, Try.ntmps61
        go_wp2
        go_ret2
        show PnRes s w _ _
        exact ⟨_, [], by rw [HE.out]; rfl, (by refine x'z ?_; repeat (with_reducible (first | exact x'a _ _ | exact x'b _ | exact x'c (by assumption) | refine x'd ?_ (by assumption) | refine x'e ?_ _ | refine x'f ?_ _ | refine x'g ?_ | refine x'h ?_ ?_ _ | refine x'i ?_ _ | refine x'j ?_ | refine x'k ?_ _ | refine x'l ?_ _ _ | refine x'm ?_ | assumption | (refine x'n ?_; omega) | omega))), by rw [HE.out]; exact SV.nil, by simp⟩
    · have q1 := u8_bnef hc
      rw [show ((40 : UInt8).toNat : Int) = 40 from rfl] at q1
      have HE := Lib.hid (show pN s = none by
        unfold pN pnB
        rw [bl_head hp, decide_eq_false (p := some s[0] = some 40) (by intro e; injection e with e; exact hc e)]
        simp)
      clear hc
      go_enter Try.func61, Try.ntmps61
      go_wp2
      go_ret2
      show PnRes s w _ _
      exact ⟨_, [], by rw [HE.out]; rfl, (by refine x'z ?_; repeat (with_reducible (first | exact x'a _ _ | exact x'b _ | exact x'c (by assumption) | refine x'd ?_ (by assumption) | refine x'e ?_ _ | refine x'f ?_ _ | refine x'g ?_ | refine x'h ?_ ?_ _ | refine x'i ?_ _ | refine x'j ?_ | refine x'k ?_ _ | refine x'l ?_ _ _ | refine x'm ?_ | assumption | (refine x'n ?_; omega) | omega))), by rw [HE.out]; exact SV.nil, by simp⟩
theorem lst_step {s : ByteArray} {k : Nat} (h : k < s.size) : lst (bl (s.extract 0 (k + 1))) = lst (bl (s.extract 0 k)) ++ (match vix s[k] with | some v => [v] | none => []) := by
  have e : bl (s.extract 0 (k + 1)) = bl (s.extract 0 k) ++ [s[k]] := by
    rw [ext_bs, ext_bs, bl_bs, bl_bs, List.drop_zero, List.drop_zero, List.take_succ_eq_append_getElem (by rw [bl_length]; exact h), bl_get s h]
  rw [e]
  unfold lst
  rw [List.filterMap_append]
  congr 1
  cases e2 : vix s[k] <;> simp [e2]
theorem lst_len (l : List UInt8) : (lst l).length ≤ l.length := List.length_filterMap_le _ _
theorem lst_in (l : List UInt8) : In5 (lst l) := by
  intro v hv
  unfold lst at hv
  obtain ⟨b, _, hb⟩ := List.mem_filterMap.1 hv
  exact vix_bd hb
def ww (b : UInt8) (k : Nat) : List Int := match vix b with
  | some j => if j < k then [j] else []
  | none => []
theorem ww_zero (b : UInt8) : ww b 0 = [] := by
  unfold ww
  cases h : vix b with
  | none => rfl
  | some j => have := vix_bd h; simp only; rw [if_neg (by simp; omega)]
theorem ww_hit {b : UInt8} {k : Nat} (h : vix b = some (k : Int)) : ww b (k + 1) = ww b k ++ [(k : Int)] := by
  unfold ww
  rw [h]
  simp only
  rw [if_pos (by omega), if_neg (by omega)]
  rfl
theorem ww_miss {b : UInt8} {k : Nat} (h : ¬ vix b = some (k : Int)) : ww b (k + 1) = ww b k := by
  unfold ww
  cases e : vix b with
  | none => rfl
  | some j =>
    have hj : j ≠ k := fun e2 => h (by rw [e, e2])
    simp only
    by_cases hlt : j < k
    · rw [if_pos hlt, if_pos (by omega)]
    · rw [if_neg hlt, if_neg (by omega)]
theorem ww_five (b : UInt8) : ww b 5 = (match vix b with | some v => [v] | none => []) := by
  unfold ww
  cases e : vix b with
  | none => rfl
  | some j => have := vix_bd e; simp only; rw [if_pos (by omega)]
theorem ww_len (b : UInt8) (k : Nat) : (ww b k).length ≤ 1 := by
  unfold ww
  cases e : vix b with
  | none => simp
  | some j => simp only; split <;> simp
set_option maxRecDepth 100000 in
set_option maxHeartbeats 4000000 in
theorem l7List_any {s : ByteArray} {w : World} (hs : s.size ≤ 1000000000) : Calls Try.prog 69 #[.string s] w fun e w' => ∃ v F, e = .returned v ∧ (∃ y, w' = ext w y) ∧ SV 3 1 sI w' v (lst (bl s)) F ∧ ∀ b ∈ F, w.heap.size ≤ b := by
  go_enter Try.func69, Try.ntmps69
  go_wp2_with fail
  go_loopw [3, 4] (fun v i wr => ∃ (k : Nat) (F : List Nat), i = .int .i64 k ∧ k ≤ s.size ∧ SV 3 1 sI wr v (lst (bl (s.extract 0 k))) F ∧ (∀ b ∈ F, w.heap.size ≤ b) ∧ ∃ y, wr = ext w y) (fun _ i _ => s.size - (intOf i).toNat)
  case atStart => exact ⟨0, [w.heap.size], rfl, by omega, by rw [ext_bs, bl_bs]; exact SV.empty w, by simp, alloc_ext _ _⟩
  case round =>
    obtain ⟨k, F, rfl, hk, hS, hF, hy⟩ := hrel
    by_cases hlt : k < s.size
    · have HL := Lib.hid (lst_step hlt)
      have hlen : (lst (bl (s.extract 0 k))).length ≤ k := Nat.le_trans (lst_len _) (by rw [bl_length, ByteArray.size_extract]; omega)
      obtain ⟨l0, hl0⟩ : ∃ l, lst (bl (s.extract 0 k)) = l := ⟨_, rfl⟩
      have HL0 := Lib.hid hl0
      rw [hl0] at hS hlen
      obtain ⟨b, hb⟩ : ∃ b, s[k] = b := ⟨_, rfl⟩
      have HB := Lib.hid hb
      have HZ := Lib.hid (ww_zero b)
      have HS := Lib.hid hS
      have HF := Lib.hid hF
      clear hl0 hb hS hF
      go_wp2_with fail
      go_loopw [3, 5] (fun v i vs => ∃ (j : Nat) (G : List Nat), i = .int .i64 j ∧ j ≤ 5 ∧ SV 3 1 sI vs v (l0 ++ ww b j) G ∧ (∀ b ∈ G, w.heap.size ≤ b) ∧ ∃ y, vs = ext w y) (fun _ i _ => 5 - (intOf i).toNat)
      case atStart => exact ⟨0, F, rfl, by omega, by rw [HZ.out, List.append_nil]; exact HS.out, HF.out, hy⟩
      case round =>
        obtain ⟨j, G, rfl, hj5, hG, hGF, hy2⟩ := hrel
        have HG := Lib.hid hG
        have HGF := Lib.hid hGF
        clear hGF
        by_cases hjl : j < 5
        · have hve := vname_eq (v := (j : Int)) hlt (by omega) (by omega)
          rw [HB.out] at hve
          by_cases hit : vix b = some (j : Int)
          · have q3 := str_beqt (hve.2 hit)
            have HV := Lib.hid (ww_hit hit)
            have hwl := ww_len b j
            have hll : (l0 ++ ww b j).length + 1 ≤ 2000000000 := by rw [List.length_append]; omega
            obtain ⟨A, c, rfl, _, _⟩ := hG.form
            clear hve hit hG hwl
            go_wp2_with fail
            refine wp_region_ext (by kernel_rfl) (by kernel_rfl) ?_
            repeat (go_big_quiet_step ((go_at_call 70; exact quietS (specVariableName_any _ _))))
            refine wpQuiet_nil ?_
            rintro _ ⟨z, rfl⟩
            go_wp2_with (at_builtin; refine wpList_app1 (E := sI) (d := (j : Int)) rfl _ _ _ rfl tI rfl rfl rfl (by simp) (fun _ => ⟨rfl, rfl⟩) rfl (by simp [Value.oneCell']) (HG.out.toExt ⟨z, rfl⟩) hll (by omega) ?_; intro v' w' F' hS' hC' hF')
            exact ⟨⟨j + 1, F', by go_num, by omega, by rw [HV.out, ← List.append_assoc]; exact hS', newer HGF.out (size_of_ext (trans_ext hy2 ⟨z, rfl⟩)) hF', hC'.isExt (trans_ext hy2 ⟨z, rfl⟩) HGF.out⟩, by simp [intOf]; omega⟩
          · have q3 := str_beqf (fun e => hit (hve.1 e))
            have HV := Lib.hid (ww_miss hit)
            clear hve hit hG
            go_wp2_with fail
            refine wp_region_ext (by kernel_rfl) (by kernel_rfl) ?_
            repeat (go_big_quiet_step ((go_at_call 70; exact quietS (specVariableName_any _ _))))
            refine wpQuiet_nil ?_
            rintro _ ⟨z, rfl⟩
            go_wp2
            exact ⟨⟨j + 1, G, by go_num, by omega, by rw [HV.out]; exact HG.out.toExt ⟨z, rfl⟩, HGF.out, trans_ext hy2 ⟨z, rfl⟩⟩, by simp [intOf]; omega⟩
        · obtain rfl : j = 5 := by omega
          have HV := Lib.hid (ww_five b)
          clear hG
          go_wp2
          exact ⟨⟨k + 1, G, by go_num, by omega, by rw [HL.out, HL0.out, HB.out, ← HV.out]; exact HG.out, HGF.out, hy2⟩, by simp [intOf]; omega⟩
    · obtain rfl : k = s.size := by omega
      have e : s.extract 0 s.size = s := by apply bl_inj; rw [ext_bs, bl_bs, List.drop_zero, List.take_of_length_le (by rw [bl_length]; omega)]
      rw [e] at hS
      clear e
      go_wp2
      go_ret
      exact ⟨_, F, rfl, hy, hS, hF⟩
end Go.Proofs.Ytbjpkfgkmilkdaa
namespace Go.Proofs.Ytbjpkfgkmilkdaa
open Go.RowKit
theorem isEmpty_yes {s : ByteArray} (h : s.size = 0) : s.toList.isEmpty = true := by
  rw [ByteArray.toList_eq, List.isEmpty_iff]
  apply List.eq_nil_of_length_eq_zero
  rw [Array.length_toList]
  exact h
theorem size_zero {s : ByteArray} (h : s.size = 0) : bl s = [] := List.eq_nil_of_length_eq_zero (by rw [bl_length]; exact h)
theorem RV.atS1 {w : World} {A : Option Addr} {xs : List ByteArray} {p : ByteArray} (h : RS w A xs) (h1 : 0 < xs.length) (hp : xs.getD 0 ⟨#[]⟩ = p) : ∃ b o, A = some ⟨b, o, none⟩ ∧ b < w.heap.size ∧ w.cell? ⟨b, o, none⟩ = some (.string p) := by
  obtain ⟨b, o, e, hb, hc⟩ := h.atS h1
  subst hp
  refine ⟨b, o, e, hb, ?_⟩
  rw [show xs.getD 0 ⟨#[]⟩ = xs[0] by simp [List.getD_eq_getElem?_getD, h1]]; exact hc
theorem split_m {s : ByteArray} (m : Int) (c : UInt8) {w : World} (hs : s.size ≤ 1000000000) (hm : (c.toNat : Int) = m) :
    Calls Try.prog 60 #[.string s, .int .u8 m] w fun e w' => ∃ v F, e = .returned v ∧ (∃ y, w' = ext w y) ∧ SV 9 1 sS w' v (splB c s) F ∧ ∀ b ∈ F, w.heap.size ≤ b := by
  subst hm
  exact split_any hs
theorem l5Cut_m {s : ByteArray} (m : Int) (c : UInt8) {w : World} (hs : s.size ≤ 1000000000) (hm : (c.toNat : Int) = m) :
    Calls Try.prog 68 #[.string s, .int .u8 m] w fun e w' => ∃ v F, e = .returned v ∧ (∃ y, w' = ext w y) ∧ SV 9 1 sS w' v (splB c s) F ∧ ∀ b ∈ F, w.heap.size ≤ b := by
  subst hm
  exact l5Cut_any hs
end Go.Proofs.Ytbjpkfgkmilkdaa
namespace Go.Proofs.Ytbjpkfgkmilkdaa
open Go.RowKit
section
variable {P : Program} {w : World}
theorem wp_appB {o : Oper} {a : Act} {K : Act → World → Prop} {Q : Exit → Act → World → Prop} (s x : Operand) (t : TypeId)
    (ho : o.op = .call { callee := .builtin .append, args := #[s, x], argTypes := #[t, t] })
    {α : Type} {E : SE α} [SMono E] {te size bytes : Nat} {z : Value} (hT : SlT P t te size bytes z) {v : Value} {ds : List α} {F G : List Nat} {cs : Array Value} {d : α} {c b0 : Nat} (hs : a.eval s = v) (hx : a.eval x = .slice (some ⟨b0, 0, none⟩) 1 c) (hB : BoxAt w b0 cs)
    (hE : E w cs.toList d G) (hc : cs.size = size) (h1 : ∀ u ∈ cs.toList, u.oneCell' = true)
    (hS : SV te size E w v ds F) (hN : (F ++ G).Nodup) (hlen : ds.length + 1 ≤ 2000000000) (hby : bytes ≤ 60000)
    (h : ∀ v' w' F', SV te size E w' v' (ds ++ [d]) F' → Chg F w w' → F'.Nodup → (∀ b ∈ F', b ∈ F ∨ b ∈ G ∨ w.heap.size ≤ b) → K (a.put o.dst v') w') : o.wp P a w K Q := by
  refine wp_appS _ s x t ho hT hs hS (List.nodup_append.1 hN).1 hx (cs := cs.toList) (es := [d]) (G := G) (fun j u hj => ?_) h1 rfl (elems_one (by simpa using hc) hE) hN hlen hby h
  have e : (⟨b0, 0, none⟩ : Addr).add j = ⟨b0, j, none⟩ := by
    unfold Addr.add
    split
    · rename_i h; subst h; rfl
    · simp
  rw [e, hB.2.1 j]
  simpa using hj
theorem step_appB {ops : Array Oper} {o : Oper} {a : Act} {K : Act → World → Prop} {Q : Exit → Act → World → Prop} {X : Prop} (hgd : o.guard = none) (s x : Operand) (t : TypeId)
    (ho : o.op = .call { callee := .builtin .append, args := #[s, x], argTypes := #[t, t] })
    {α : Type} {E : SE α} [SMono E] {te size bytes : Nat} {z : Value} (hT : SlT P t te size bytes z) {v : Value} {ds : List α} {F G : List Nat} {cs : Array Value} {d : α} {c b0 : Nat} (hs : a.eval s = v) (hx : a.eval x = .slice (some ⟨b0, 0, none⟩) 1 c) (hB : BoxAt w b0 cs)
    (hE : E w cs.toList d G) (hc : cs.size = size) (h1 : ∀ u ∈ cs.toList, u.oneCell' = true)
    (hS : SV te size E w v ds F) (hN : (F ++ G).Nodup) (hlen : ds.length + 1 ≤ 2000000000) (hby : bytes ≤ 60000)
    (h : ∀ v' w' F', SV te size E w' v' (ds ++ [d]) F' → Chg F w w' → F'.Nodup → (∀ b ∈ F', b ∈ F ∨ b ∈ G ∨ w.heap.size ≤ b) → K (a.put o.dst v') w') :
    if Region.wanted o (yielded ops a.tmps) = true then Oper.wp P o a w K Q else X := by
  have hwt : Region.wanted o (yielded ops a.tmps) = true := by simp [Region.wanted, hgd]
  rw [if_pos hwt]
  exact wp_appB s x t ho hT hs hx hB hE hc h1 hS hN hlen hby h
end
end Go.Proofs.Ytbjpkfgkmilkdaa
