/- Contracts of functions that the statement reaches. -/
import Derived.Test.YtbjpkfgkmilkdaaG03
namespace Go.Proofs.Ytbjpkfgkmilkdaa
open Go.RowKit
def atomB (n : Int) (x : At) : Bool := nameB x.1 && inB x.2.length 1 5 && x.2.all fun v => inB v 0 (n - 1)
def seen (ats : List At) : List Int := ats.flatMap (·.2)
def mkU (n : Nat) (s : List Int) : List Bool := (List.range n).map fun (v : Nat) => decide ((v : Int) ∈ s)
def coverB (n : Int) (ats : List At) : Bool := (mkU n.toNat (seen ats)).all id
def vqB (d : Qd) : Bool := inB d.1 1 5 && inB d.2.1.length 1 4 && setB d.1 [] d.2.2 && d.2.1.all (atomB d.1) && coverB d.1 d.2.1
@[simp] theorem mkU_length (n : Nat) (s : List Int) : (mkU n s).length = n := by simp [mkU]
theorem mkU_nil (n : Nat) : mkU n [] = List.replicate n false := by
  unfold mkU
  apply List.ext_getElem
  · simp
  · intro i h1 h2
    simp
theorem mkU_set {n : Nat} {s : List Int} {v : Int} (h0 : 0 ≤ v) : (mkU n s).set v.toNat true = mkU n (s ++ [v]) := by
  apply List.ext_getElem
  · simp
  · intro i h1 h2
    rw [List.getElem_set]
    unfold mkU
    simp only [List.getElem_map, List.getElem_range, List.mem_append, List.mem_singleton]
    split
    · rename_i h
      subst h
      simp
      right; omega
    · rename_i h
      have : ¬ ((i : Int) = v) := by rintro rfl; exact h (by simp)
      simp [this]
theorem seen_take {ats : List At} {k : Nat} (h : k < ats.length) : seen (ats.take (k + 1)) = seen (ats.take k) ++ ats[k].2 := by
  unfold seen
  rw [List.take_succ_eq_append_getElem h, List.flatMap_append]
  simp
theorem allA_step {α : Type} {p : α → Bool} {xs : List α} {k : Nat} (h : k < xs.length) : (xs.drop k).all p = (p xs[k] && (xs.drop (k + 1)).all p) := by
  rw [List.drop_eq_getElem_cons h, List.all_cons]
theorem allA_end {α : Type} {p : α → Bool} {xs : List α} {k : Nat} (h : ¬ k < xs.length) : (xs.drop k).all p = true := by
  rw [List.drop_eq_nil_of_le (by omega)]; rfl
theorem tB : SlT Try.prog 101 4 1 1 (.bool false) := ⟨Try.underlying101, by kernel_rfl, rfl, by omega⟩
set_option maxRecDepth 4000 in
set_option maxHeartbeats 4000000 in
theorem IsValidQuery_w {A B : Option Addr} {c e1 : Nat} {d : Qd} {w : World} (hb : WQ d) (h : vQ w [.int .i64 d.1, .slice A d.2.1.length c, .slice B d.2.2.length e1] d) :
    Calls Try.prog 29 #[.agg #[.int .i64 d.1, .slice A d.2.1.length c, .slice B d.2.2.length e1]] w fun e w' => e = .returned (.bool (vqB d)) ∧ ∃ y, w' = ext w y := by
  obtain ⟨r1, r2, hcap⟩ := vQ_get h
  obtain ⟨hz, b1, b2⟩ := hb
  obtain ⟨z, ats, out⟩ := d
  dsimp only at r1 r2 hcap hz b1 b2 ⊢
  have r1 := (vAts_get r1).2
  have m2 : out.length ≤ 1000000000 := by omega
  have b4 := b1.1
  have Hx := Lib.hid b1.2
  clear h b1
  obtain ⟨t1, ht1⟩ : ∃ t, inB z 1 5 = t := ⟨_, rfl⟩
  obtain ⟨t2, ht2⟩ : ∃ t, inB ats.length 1 4 = t := ⟨_, rfl⟩
  obtain ⟨t3, ht3⟩ : ∃ t, setB z [] out = t := ⟨_, rfl⟩
  have N1 := Lib.hid ht1
  have N2 := Lib.hid ht2
  have N3 := Lib.hid ht3
  have HE := Lib.hid (show vqB (z, ats, out) = (t1 && t2 && t3 && ats.all (atomB z) && coverB z ats) by unfold vqB; rw [ht1, ht2, ht3])
  clear ht1 ht2 ht3
  cases t1 with
  | false =>
    go_enter Try.func29, Try.ntmps29
    go_wp2_with (go_at_call 76; refine (within_any _ _ _ _).mono ?_; rintro e w' ⟨rfl, rfl⟩; (first | rw [N1.out] | rw [N2.out]))
    go_ret
    exact ⟨by rw [HE.out]; rfl, (by refine x'z ?_; repeat (with_reducible (first | exact x'a _ _ | exact x'b _ | exact x'c (by assumption) | refine x'd ?_ (by assumption) | refine x'e ?_ _ | refine x'f ?_ _ | refine x'g ?_ | refine x'h ?_ ?_ _ | refine x'i ?_ _ | refine x'j ?_ | refine x'k ?_ _ | refine x'l ?_ _ _ | refine x'm ?_ | assumption | (refine x'n ?_; omega) | omega)))⟩
  | true =>
    have hn := inB_t N1.out
    obtain ⟨n, rfl⟩ : ∃ n : Nat, z = n := ⟨z.toNat, by omega⟩
    have hn1 : n ≤ 5 := by omega
    have hn2 : 1 ≤ n := by omega
    clear hn hz
    cases t2 with
    | false =>
      go_enter Try.func29, Try.ntmps29
      go_wp2_with (go_at_call 76; refine (within_any _ _ _ _).mono ?_; rintro e w' ⟨rfl, rfl⟩; (first | rw [N1.out] | rw [N2.out]))
      go_ret
      exact ⟨by rw [HE.out]; rfl, (by refine x'z ?_; repeat (with_reducible (first | exact x'a _ _ | exact x'b _ | exact x'c (by assumption) | refine x'd ?_ (by assumption) | refine x'e ?_ _ | refine x'f ?_ _ | refine x'g ?_ | refine x'h ?_ ?_ _ | refine x'i ?_ _ | refine x'j ?_ | refine x'k ?_ _ | refine x'l ?_ _ _ | refine x'm ?_ | assumption | (refine x'n ?_; omega) | omega)))⟩
    | true =>
      cases t3 with
      | false =>
        go_enter Try.func29, Try.ntmps29
        go_wp2_with (first
          | (go_at_call 76; refine (within_any _ _ _ _).mono ?_; rintro e w' ⟨rfl, rfl⟩; (first | rw [N1.out] | rw [N2.out]))
          | (go_at_call 77; refine (isSetOf_any m2 hcap (r2.toExt (by refine x'z ?_; repeat (with_reducible (first | exact x'a _ _ | exact x'b _ | exact x'c (by assumption) | refine x'd ?_ (by assumption) | refine x'e ?_ _ | refine x'f ?_ _ | refine x'g ?_ | refine x'h ?_ ?_ _ | refine x'i ?_ _ | refine x'j ?_ | refine x'k ?_ _ | refine x'l ?_ _ _ | refine x'm ?_ | assumption | (refine x'n ?_; omega) | omega)))) (by omega) (by omega)).mono ?_; rintro e w1 ⟨rfl, y1, rfl⟩; rw [N3.out]))
        go_ret
        exact ⟨by rw [HE.out]; rfl, (by refine x'z ?_; repeat (with_reducible (first | exact x'a _ _ | exact x'b _ | exact x'c (by assumption) | refine x'd ?_ (by assumption) | refine x'e ?_ _ | refine x'f ?_ _ | refine x'g ?_ | refine x'h ?_ ?_ _ | refine x'i ?_ _ | refine x'j ?_ | refine x'k ?_ _ | refine x'l ?_ _ _ | refine x'm ?_ | assumption | (refine x'n ?_; omega) | omega)))⟩
      | true =>
        have HF := Lib.hid (show ats.all (atomB n) = false → vqB ((n : Int), ats, out) = false by rw [HE.out]; intro h; rw [h]; rfl)
        have HT := Lib.hid (show ats.all (atomB n) = true → vqB ((n : Int), ats, out) = (mkU n (seen ats)).all id by rw [HE.out]; intro h; rw [h]; rfl)
        have HU0 := Lib.hid (mkU_nil n)
        go_enter Try.func29, Try.ntmps29
        go_wp2_with (first
          | (go_at_call 76; refine (within_any _ _ _ _).mono ?_; rintro e w' ⟨rfl, rfl⟩; (first | rw [N1.out] | rw [N2.out]))
          | (go_at_call 77; refine (isSetOf_any m2 hcap (r2.toExt (by refine x'z ?_; repeat (with_reducible (first | exact x'a _ _ | exact x'b _ | exact x'c (by assumption) | refine x'd ?_ (by assumption) | refine x'e ?_ _ | refine x'f ?_ _ | refine x'g ?_ | refine x'h ?_ ?_ _ | refine x'i ?_ _ | refine x'j ?_ | refine x'k ?_ _ | refine x'l ?_ _ _ | refine x'm ?_ | assumption | (refine x'n ?_; omega) | omega)))) (by omega) (by omega)).mono ?_; rintro e w1 ⟨rfl, hx1⟩; rw [N3.out]; have P1 := (BoxAt.new w #[.int .i64 (n : Int), .slice A ats.length c, .slice B out.length e1] 44).toExt hx1; obtain ⟨l1, a1, a1', a1'', f1⟩ := box3 P1)
          | (at_make; refine wpList_makeS (E := sB) (d := false) (n := n) _ rfl _ _ _ rfl tB rfl rfl (fun _ => ⟨rfl, rfl⟩) (by omega) (by omega) ?_; intro w2 hS hx2 hg2; have P2 := P1.toExt hx2; obtain ⟨l2, a2, a2', a2'', f2⟩ := box3 P2))
        have hg1 := size_of_ext hx1
        simp only [World.size_alloc] at hg1
        rw [← HU0.out] at hS
        go_loopw [35] (fun i wr => ∃ k : Nat, i = .int .i64 k ∧ k ≤ ats.length ∧ SV 4 1 sB wr (.slice (some ⟨w1.heap.size, 0, none⟩) n n) (mkU n (seen (ats.take k))) [w1.heap.size] ∧ (∃ y, wr = ext w y) ∧ (ats.drop k).all (atomB n) = ats.all (atomB n)) (fun i _ => ats.length - (intOf i).toNat)
        case atStart => exact ⟨0, rfl, by omega, by simpa [seen] using hS, (by refine x'z ?_; repeat (with_reducible (first | exact x'a _ _ | exact x'b _ | exact x'c (by assumption) | refine x'd ?_ (by assumption) | refine x'e ?_ _ | refine x'f ?_ _ | refine x'g ?_ | refine x'h ?_ ?_ _ | refine x'i ?_ _ | refine x'j ?_ | refine x'k ?_ _ | refine x'l ?_ _ _ | refine x'm ?_ | assumption | (refine x'n ?_; omega) | omega))), by simp⟩
        case round =>
          obtain ⟨k, rfl, hk, hS, hy, hj⟩ := hrel
          have Hj := Lib.hid hj
          clear hj
          by_cases hlt : k < ats.length
          · obtain ⟨b, o, A', c', rfl, hb0, hc0, hd0, hv0⟩ := r1.atA hlt
            have hb : b < wr.heap.size := Nat.lt_of_lt_of_le hb0 (size_of_ext hy)
            have hc : wr.cell? ⟨b, o + k * 2, none⟩ = some (.string ats[k].1) := by obtain ⟨y, e⟩ := hy; rw [e, cell_ext hb0]; exact hc0
            have hd : wr.cell? ⟨b, o + k * 2 + 1, none⟩ = some (.slice A' ats[k].2.length c') := by obtain ⟨y, e⟩ := hy; rw [e, cell_ext hb0]; exact hd0
            clear hc0 hd0
            have hle := Hx.out ats[k] (List.getElem_mem hlt)
            obtain ⟨x1, x2⟩ := hle
            have x3 : ats[k].1.size ≤ 1000000000 := by omega
            have e := Hj.out
            rw [allA_step hlt] at e
            have HS := Lib.hid hS
            have Hst := Lib.hid (seen_take hlt)
            obtain ⟨s, hs⟩ : ∃ s, ats[k].1 = s := ⟨_, rfl⟩
            obtain ⟨xs, hxs⟩ : ∃ xs, ats[k].2 = xs := ⟨_, rfl⟩
            have ea : atomB n ats[k] = (nameB s && inB xs.length 1 5 && xs.all fun v => inB v 0 ((n : Int) - 1)) := by unfold atomB; rw [hs, hxs]
            rw [ea] at e
            have Hst : Hid (seen (ats.take (k + 1)) = seen (ats.take k) ++ xs) := Lib.hid (by rw [Hst.out, hxs])
            rw [hs] at hc x3
            rw [hxs] at hd hv0 x2
            obtain ⟨t4, ht4⟩ : ∃ t, nameB s = t := ⟨_, rfl⟩
            obtain ⟨t5, ht5⟩ : ∃ t, inB xs.length 1 5 = t := ⟨_, rfl⟩
            rw [ht4, ht5] at e
            have N4 := Lib.hid ht4
            have N5 := Lib.hid ht5
            have He := Lib.hid e
            clear e ea hs hxs ht4 ht5 hS x1
            cases t4 with
            | false =>
              go_wp2_with (go_at_call 78; refine (IsValidName_any x3).mono ?_; rintro e w' ⟨rfl, rfl⟩; rw [N4.out])
              go_ret
              exact ⟨by rw [HF.out He.out.symm]; rfl, (by refine x'z ?_; repeat (with_reducible (first | exact x'a _ _ | exact x'b _ | exact x'c (by assumption) | refine x'd ?_ (by assumption) | refine x'e ?_ _ | refine x'f ?_ _ | refine x'g ?_ | refine x'h ?_ ?_ _ | refine x'i ?_ _ | refine x'j ?_ | refine x'k ?_ _ | refine x'l ?_ _ _ | refine x'm ?_ | assumption | (refine x'n ?_; omega) | omega)))⟩
            | true =>
              cases t5 with
              | false =>
                go_wp2_with (first
                  | (go_at_call 78; refine (IsValidName_any x3).mono ?_; rintro e w' ⟨rfl, rfl⟩; rw [N4.out])
                  | (go_at_call 76; refine (within_any _ _ _ _).mono ?_; rintro e w' ⟨rfl, rfl⟩; rw [N5.out]))
                go_ret
                exact ⟨by rw [HF.out He.out.symm]; rfl, (by refine x'z ?_; repeat (with_reducible (first | exact x'a _ _ | exact x'b _ | exact x'c (by assumption) | refine x'd ?_ (by assumption) | refine x'e ?_ _ | refine x'f ?_ _ | refine x'g ?_ | refine x'h ?_ ?_ _ | refine x'i ?_ _ | refine x'j ?_ | refine x'k ?_ _ | refine x'l ?_ _ _ | refine x'm ?_ | assumption | (refine x'n ?_; omega) | omega)))⟩
              | true =>
                go_wp2_with (first
                  | (go_at_call 78; refine (IsValidName_any x3).mono ?_; rintro e w' ⟨rfl, rfl⟩; rw [N4.out])
                  | (go_at_call 76; refine (within_any _ _ _ _).mono ?_; rintro e w' ⟨rfl, rfl⟩; rw [N5.out]))
                have hyw : ∃ y, wr.alloc (.cells #[.string s, .slice A' xs.length c'] 89) = ext wr y := alloc_ext _ _
                go_loopw [53] (fun i vs => ∃ j : Nat, i = .int .i64 j ∧ j ≤ xs.length ∧ SV 4 1 sB vs (.slice (some ⟨w1.heap.size, 0, none⟩) n n) (mkU n (seen (ats.take k) ++ xs.take j)) [w1.heap.size] ∧ (∃ y, vs = ext w y) ∧ (xs.drop j).all (fun v => inB v 0 ((n : Int) - 1)) = xs.all fun v => inB v 0 ((n : Int) - 1)) (fun i _ => xs.length - (intOf i).toNat)
                case atStart => exact ⟨0, rfl, by omega, by simpa using HS.out.toExt hyw, (by refine x'z ?_; repeat (with_reducible (first | exact x'a _ _ | exact x'b _ | exact x'c (by assumption) | refine x'd ?_ (by assumption) | refine x'e ?_ _ | refine x'f ?_ _ | refine x'g ?_ | refine x'h ?_ ?_ _ | refine x'i ?_ _ | refine x'j ?_ | refine x'k ?_ _ | refine x'l ?_ _ _ | refine x'm ?_ | assumption | (refine x'n ?_; omega) | omega))), by simp⟩
                case round =>
                  obtain ⟨j, rfl, hj1, hS2, hy2, hj⟩ := hrel
                  have Hj2 := Lib.hid hj
                  have HS2 := Lib.hid hS2
                  clear hj
                  by_cases hlt2 : j < xs.length
                  · obtain ⟨b3, o3, rfl, hb3, hc3⟩ := (hv0.toExt hy2).atI hlt2
                    have e := Hj2.out
                    rw [allA_step hlt2] at e
                    obtain ⟨v, hvv⟩ : ∃ v, xs[j] = v := ⟨_, rfl⟩
                    have Hv := Lib.hid hvv
                    rw [hvv] at e hc3
                    obtain ⟨t6, ht6⟩ : ∃ t, inB v 0 ((n : Int) - 1) = t := ⟨_, rfl⟩
                    rw [ht6] at e
                    have N6 := Lib.hid ht6
                    have He2 := Lib.hid e
                    clear e hvv ht6
                    cases t6 with
                    | false =>
                      have HB := Lib.hid (show ats.all (atomB n) = false by rw [← He.out, ← He2.out]; rfl)
                      clear hS2
                      go_wp2_with (go_at_call 76; refine (within_any _ _ _ _).mono ?_; rintro e w' ⟨rfl, rfl⟩; rw [N6.out])
                      go_ret
                      exact ⟨by rw [HF.out HB.out]; rfl, hy2⟩
                    | true =>
                      have hvb := inB_t N6.out
                      obtain ⟨v0, v1⟩ := hvb
                      have v2 : v < (n : Int) := by omega
                      obtain ⟨⟨u, hu⟩, hf, hg⟩ := hS2.cell (by simp) (j := v.toNat) (by omega)
                      have Hset := Lib.hid (show (mkU n (seen (ats.take k) ++ xs.take j)).set v.toNat true = mkU n (seen (ats.take k) ++ xs.take (j + 1)) by
                        rw [mkU_set v0, List.take_succ_eq_append_getElem hlt2, Hv.out, List.append_assoc])
                      clear hS2
                      go_wp2_with (go_at_call 76; refine (within_any _ _ _ _).mono ?_; rintro e w' ⟨rfl, rfl⟩; rw [N6.out])
                      obtain ⟨h3, h4⟩ := HS2.out.set1 (by simp) (k := v.toNat) (by omega) (u := .bool true) (d := true) (fun _ => ⟨rfl, rfl⟩)
                      rw [Hset.out] at h3
                      exact ⟨⟨j + 1, by go_num, by omega, h3, h4.isExt hy2 (by simpa using by omega), by simpa using He2.out⟩, by simp [intOf]; omega⟩
                  · have e := Hj2.out
                    rw [allA_end hlt2] at e
                    have e2 := He.out
                    rw [← e] at e2
                    have He2 := Lib.hid e2
                    rw [show xs.take j = xs from List.take_of_length_le (by omega), ← Hst.out] at hS2
                    clear e e2
                    go_wp2
                    exact ⟨⟨k + 1, by go_num, by omega, hS2, hy2, by simpa using He2.out⟩, by simp [intOf]; omega⟩
          · have e := Hj.out
            rw [allA_end hlt] at e
            have HE2 := Lib.hid (HT.out e.symm)
            rw [List.take_of_length_le (by omega)] at hS
            have hV := hS.toView sB_v
            clear e
            go_wp2
            clear hlt Hj
            go_loopw [69] (fun i ws => ∃ k : Nat, i = .int .i64 k ∧ k ≤ n ∧ ((mkU n (seen ats)).drop k).all id = (mkU n (seen ats)).all id ∧ ∃ y, ws = ext wr y) (fun i _ => n - (intOf i).toNat)
            case atStart => exact ⟨0, rfl, by omega, by simp, refl_ext _⟩
            case round =>
              obtain ⟨k, rfl, hk, hj, hy3⟩ := hrel
              have Hj := Lib.hid hj
              clear hj
              by_cases hlt : k < n
              · have hlt2 : k < (mkU n (seen ats)).length := by simpa using hlt
                obtain ⟨b3, o3, hA3, hb3, hc3⟩ := (hV.toExt hy3).atB hlt2
                injection hA3 with hA3
                injection hA3 with e1 e2
                subst e1 e2
                have e := Hj.out
                rw [allA_step hlt2] at e
                obtain ⟨t, ht⟩ : ∃ t, (mkU n (seen ats))[k] = t := ⟨_, rfl⟩
                rw [ht] at e hc3
                rw [Nat.zero_add] at hc3
                have He := Lib.hid e
                clear e ht
                cases t with
                | true =>
                  go_wp2
                  exact ⟨⟨k + 1, by go_num, by omega, by simpa using He.out, hy3⟩, by simp [intOf]; omega⟩
                | false =>
                  go_wp2
                  go_ret
                  exact ⟨by rw [HE2.out, ← He.out]; rfl, trans_ext hy hy3⟩
              · have e := Hj.out
                rw [allA_end (by simpa using hlt)] at e
                have He := Lib.hid e
                clear e
                go_wp2
                go_ret
                exact ⟨by rw [HE2.out, ← He.out]; rfl, trans_ext hy hy3⟩
theorem IsValidQuery_any {A B : Option Addr} {c e1 : Nat} {d : Qd} {w : World} (hb : BQ d) (h : vQ w [.int .i64 d.1, .slice A d.2.1.length c, .slice B d.2.2.length e1] d) :
    Calls Try.prog 29 #[.agg #[.int .i64 d.1, .slice A d.2.1.length c, .slice B d.2.2.length e1]] w fun e w' => e = .returned (.bool (vqB d)) ∧ ∃ y, w' = ext w y := IsValidQuery_w hb.w h
theorem quietEi' {P : Program} {f : FuncId} {args : Array Value} {w y : World} {m n : Int}
    (h : Calls P f args (ext w y) fun e w' => e = .returned (.int .i64 m) ∧ ∃ z, w' = ext (ext w y) z) (hc : m = n) : Calls P f args (ext w y) fun e w' => e = .returned (.int .i64 n) ∧ ∃ z, w' = ext w z := by
  subst hc; exact quietE h
theorem l7Find_n {A : Option Addr} {c m : Nat} {xs : List Int} {n : Int} {w : World} (hm : xs.length = m) (hx : m ≤ 1000000000) (h1 : RI w A xs) :
    Calls Try.prog 75 #[.slice A m c, .int .i64 n] w fun e w' => e = .returned (.int .i64 (iof 0 n xs)) ∧ ∃ y, w' = ext w y := by
  subst hm
  exact l7Find_any hx h1
set_option maxRecDepth 100000 in
set_option maxHeartbeats 8000000 in
theorem specIsValidQuery_w {A B : Option Addr} {c e1 : Nat} {d : Qd} {w : World} (hb : WQ d) (h : vQ w [.int .i64 d.1, .slice A d.2.1.length c, .slice B d.2.2.length e1] d) :
    Calls Try.prog 28 #[.agg #[.int .i64 d.1, .slice A d.2.1.length c, .slice B d.2.2.length e1]] w fun e w' => e = .returned (.bool (vqB d)) ∧ ∃ y, w' = ext w y := by
  obtain ⟨r1, r2, hcap⟩ := vQ_get h
  obtain ⟨hz, b1, b2⟩ := hb
  obtain ⟨z, ats, out⟩ := d
  dsimp only at r1 r2 hcap hz b1 b2 ⊢
  have r1 := (vAts_get r1).2
  have m2 : out.length ≤ 1000000000 := by omega
  have b4 := b1.1
  have Hx := Lib.hid b1.2
  clear h b1
  obtain ⟨t1, ht1⟩ : ∃ t, inB z 1 5 = t := ⟨_, rfl⟩
  obtain ⟨t2, ht2⟩ : ∃ t, inB ats.length 1 4 = t := ⟨_, rfl⟩
  have N1 := Lib.hid ht1
  have N2 := Lib.hid ht2
  have HE := Lib.hid (show vqB (z, ats, out) = (t1 && t2 && setB z [] out && ats.all (atomB z) && coverB z ats) by unfold vqB; rw [ht1, ht2])
  clear ht1 ht2
  cases t1 with
  | false =>
    go_enter Try.func28, Try.ntmps28
    go_wp2_with (go_at_call 72; refine (l1In_any _ _ _ _).mono ?_; rintro e w' ⟨rfl, rfl⟩; (first | rw [N1.out] | rw [N2.out]))
    go_ret
    exact ⟨by rw [HE.out]; rfl, (by refine x'z ?_; repeat (with_reducible (first | exact x'a _ _ | exact x'b _ | exact x'c (by assumption) | refine x'd ?_ (by assumption) | refine x'e ?_ _ | refine x'f ?_ _ | refine x'g ?_ | refine x'h ?_ ?_ _ | refine x'i ?_ _ | refine x'j ?_ | refine x'k ?_ _ | refine x'l ?_ _ _ | refine x'm ?_ | assumption | (refine x'n ?_; omega) | omega)))⟩
  | true =>
    have hn := inB_t N1.out
    obtain ⟨n, rfl⟩ : ∃ n : Nat, z = n := ⟨z.toNat, by omega⟩
    have hn1 : n ≤ 5 := by omega
    have hn2 : 1 ≤ n := by omega
    clear hn hz
    cases t2 with
    | false =>
      go_enter Try.func28, Try.ntmps28
      go_wp2_with (go_at_call 72; refine (l1In_any _ _ _ _).mono ?_; rintro e w' ⟨rfl, rfl⟩; (first | rw [N1.out] | rw [N2.out]))
      go_ret
      exact ⟨by rw [HE.out]; rfl, (by refine x'z ?_; repeat (with_reducible (first | exact x'a _ _ | exact x'b _ | exact x'c (by assumption) | refine x'd ?_ (by assumption) | refine x'e ?_ _ | refine x'f ?_ _ | refine x'g ?_ | refine x'h ?_ ?_ _ | refine x'i ?_ _ | refine x'j ?_ | refine x'k ?_ _ | refine x'l ?_ _ _ | refine x'm ?_ | assumption | (refine x'n ?_; omega) | omega)))⟩
    | true =>
      by_cases hbig : n < out.length
      · have HF := Lib.hid (show vqB ((n : Int), ats, out) = false by
          rw [HE.out]
          cases hs : setB n [] out with
          | false => rfl
          | true => have := setB_len hs (by omega); omega)
        go_enter Try.func28, Try.ntmps28
        go_wp2_with (go_at_call 72; refine (l1In_any _ _ _ _).mono ?_; rintro e w' ⟨rfl, rfl⟩; (first | rw [N1.out] | rw [N2.out]))
        go_ret
        exact ⟨by rw [HF.out]; rfl, (by refine x'z ?_; repeat (with_reducible (first | exact x'a _ _ | exact x'b _ | exact x'c (by assumption) | refine x'd ?_ (by assumption) | refine x'e ?_ _ | refine x'f ?_ _ | refine x'g ?_ | refine x'h ?_ ?_ _ | refine x'i ?_ _ | refine x'j ?_ | refine x'k ?_ _ | refine x'l ?_ _ _ | refine x'm ?_ | assumption | (refine x'n ?_; omega) | omega)))⟩
      · have HF1 := Lib.hid (show ats.all (atomB n) = false → vqB ((n : Int), ats, out) = false by rw [HE.out]; intro h; rw [h, Bool.and_false]; rfl)
        have HF2 := Lib.hid (show (mkU n (seen ats)).all id = false → vqB ((n : Int), ats, out) = false by rw [HE.out]; intro h; rw [show coverB n ats = (mkU n (seen ats)).all id from rfl, h, Bool.and_false])
        have HT := Lib.hid (show ats.all (atomB n) = true → (mkU n (seen ats)).all id = true → vqB ((n : Int), ats, out) = setB n [] out by rw [HE.out]; intro h h2; rw [h, show coverB n ats = (mkU n (seen ats)).all id from rfl, h2]; simp)
        have hw1 : IntKind.i64.wrap ((n : Int) - 1) = (n : Int) - 1 := by rw [IntKind.wrap_i64]; omega
        go_enter Try.func28, Try.ntmps28
        go_upto_region 1 with fail
        refine wp_name ?_
        intro W hW
        have xW : ∃ y, W = ext w y := by rw [hW.out]; exact (by refine x'z ?_; repeat (with_reducible (first | exact x'a _ _ | exact x'b _ | exact x'c (by assumption) | refine x'd ?_ (by assumption) | refine x'e ?_ _ | refine x'f ?_ _ | refine x'g ?_ | refine x'h ?_ ?_ _ | refine x'i ?_ _ | refine x'j ?_ | refine x'k ?_ _ | refine x'l ?_ _ _ | refine x'm ?_ | assumption | (refine x'n ?_; omega) | omega)))
        have BW0 : BoxAt W (w.heap.size) #[.int .i64 (n : Int), .slice A ats.length c, .slice B out.length e1] := by rw [hW.out]; refine ⟨?_, fun j => ?_, fun j => ?_⟩ <;> go_simp
        obtain ⟨lW0, bW0, fW0⟩ := BW0
        have cW0_0 : W.cell? ⟨w.heap.size, 0, none⟩ = some (.int .i64 (n : Int)) := bW0 0
        have cW0_1 : W.cell? ⟨w.heap.size, 1, none⟩ = some (.slice A ats.length c) := bW0 1
        have cW0_2 : W.cell? ⟨w.heap.size, 2, none⟩ = some (.slice B out.length e1) := bW0 2
        clear hW
        go_wp2_with (go_at_call 72; refine (l1In_any _ _ _ _).mono ?_; rintro e w' ⟨rfl, rfl⟩; (first | rw [N1.out] | rw [N2.out]))
        have r1 := r1.toExt xW
        have r2 := r2.toExt xW
        go_loopw [3] (fun i wr => ∃ k : Nat, i = .int .i64 k ∧ k ≤ ats.length ∧ (∃ y, wr = ext W y) ∧ (ats.drop k).all (atomB n) = ats.all (atomB n)) (fun i _ => ats.length - (intOf i).toNat)
        case atStart => exact ⟨0, rfl, by omega, refl_ext _, by simp⟩
        case round =>
          obtain ⟨k, rfl, hk, hy, hj⟩ := hrel
          have Hj := Lib.hid hj
          clear hj
          obtain ⟨l1, a1, a1', a1'', f1⟩ := box3 (BoxAt.toExt (cs := #[_, _, _]) ⟨lW0, bW0, fW0⟩ hy)
          by_cases hlt : k < ats.length
          · obtain ⟨b, o, A', c', rfl, hb0, hc0, hd0, hv0⟩ := r1.atA hlt
            have hb : b < wr.heap.size := Nat.lt_of_lt_of_le hb0 (size_of_ext hy)
            have hc : wr.cell? ⟨b, o + k * 2, none⟩ = some (.string ats[k].1) := by obtain ⟨y, e⟩ := hy; rw [e, cell_ext hb0]; exact hc0
            have hd : wr.cell? ⟨b, o + k * 2 + 1, none⟩ = some (.slice A' ats[k].2.length c') := by obtain ⟨y, e⟩ := hy; rw [e, cell_ext hb0]; exact hd0
            have hle := Hx.out ats[k] (List.getElem_mem hlt)
            obtain ⟨x1, x2⟩ := hle
            have x3 : ats[k].1.size ≤ 1000000000 := by omega
            have e := Hj.out
            rw [allA_step hlt] at e
            obtain ⟨s, hs⟩ : ∃ s, ats[k].1 = s := ⟨_, rfl⟩
            obtain ⟨xs, hxs⟩ : ∃ xs, ats[k].2 = xs := ⟨_, rfl⟩
            have ea : atomB n ats[k] = (nameB s && inB xs.length 1 5 && xs.all fun v => inB v 0 ((n : Int) - 1)) := by unfold atomB; rw [hs, hxs]
            rw [ea] at e
            rw [hs] at hc x3
            rw [hxs] at hd hd0 hv0 x2
            obtain ⟨t4, ht4⟩ : ∃ t, nameB s = t := ⟨_, rfl⟩
            obtain ⟨t5, ht5⟩ : ∃ t, inB xs.length 1 5 = t := ⟨_, rfl⟩
            rw [ht4, ht5] at e
            have N4 := Lib.hid ht4
            have N5 := Lib.hid ht5
            have He := Lib.hid e
            have Hd0 := Lib.hid hd0
            clear e ea hs hxs ht4 ht5 x1 hc0 hd0
            cases t4 with
            | false =>
              go_wp2_with (go_at_call 73; refine (specIsValidName_any x3).mono ?_; rintro e w' ⟨rfl, rfl⟩; rw [N4.out])
              go_ret
              exact ⟨by rw [HF1.out He.out.symm]; rfl, trans_ext xW hy⟩
            | true =>
              cases t5 with
              | false =>
                go_wp2_with (first
                  | (go_at_call 73; refine (specIsValidName_any x3).mono ?_; rintro e w' ⟨rfl, rfl⟩; rw [N4.out])
                  | (go_at_call 72; refine (l1In_any _ _ _ _).mono ?_; rintro e w' ⟨rfl, rfl⟩; rw [N5.out]))
                go_ret
                exact ⟨by rw [HF1.out He.out.symm]; rfl, trans_ext xW hy⟩
              | true =>
                go_wp2_with (first
                  | (go_at_call 73; refine (specIsValidName_any x3).mono ?_; rintro e w' ⟨rfl, rfl⟩; rw [N4.out])
                  | (go_at_call 72; refine (l1In_any _ _ _ _).mono ?_; rintro e w' ⟨rfl, rfl⟩; rw [N5.out]))
                clear l1 a1 a1' a1'' f1 hb hc hd
                go_loopw [4] (fun i vs => ∃ j : Nat, i = .int .i64 j ∧ j ≤ xs.length ∧ (∃ y, vs = ext W y) ∧ (xs.drop j).all (fun v => inB v 0 ((n : Int) - 1)) = xs.all fun v => inB v 0 ((n : Int) - 1)) (fun i _ => xs.length - (intOf i).toNat)
                case atStart => exact ⟨0, rfl, by omega, hy, by simp⟩
                case round =>
                  obtain ⟨j, rfl, hj1, hy2, hj⟩ := hrel
                  have Hj2 := Lib.hid hj
                  clear hj
                  obtain ⟨l2, a2, a2', a2'', f2⟩ := box3 (BoxAt.toExt (cs := #[_, _, _]) ⟨lW0, bW0, fW0⟩ hy2)
                  have hb : b < wr.heap.size := Nat.lt_of_lt_of_le hb0 (size_of_ext hy2)
                  have hd : wr.cell? ⟨b, o + k * 2 + 1, none⟩ = some (.slice A' xs.length c') := by obtain ⟨y, e⟩ := hy2; rw [e, cell_ext hb0]; exact Hd0.out
                  by_cases hlt2 : j < xs.length
                  · obtain ⟨b3, o3, rfl, hb3, hc3⟩ := (hv0.toExt hy2).atI hlt2
                    have e := Hj2.out
                    rw [allA_step hlt2] at e
                    obtain ⟨v, hvv⟩ : ∃ v, xs[j] = v := ⟨_, rfl⟩
                    rw [hvv] at e hc3
                    obtain ⟨t6, ht6⟩ : ∃ t, inB v 0 ((n : Int) - 1) = t := ⟨_, rfl⟩
                    rw [ht6] at e
                    have N6 := Lib.hid ht6
                    have He2 := Lib.hid e
                    clear e hvv ht6
                    cases t6 with
                    | false =>
                      have HB := Lib.hid (show ats.all (atomB n) = false by rw [← He.out, ← He2.out]; rfl)
                      go_wp2
                      refine wp_region_ext (by kernel_rfl) (by kernel_rfl) ?_
                      repeat (go_big_quiet_step ((go_at_call 72; (try rw [hw1]); exact quietSb (l1In_any _ _ _ _) N6.out)))
                      refine wpQuiet_nil ?_
                      rintro _ ⟨zz, rfl⟩
                      go_wp2
                      go_ret
                      exact ⟨by rw [HF1.out HB.out]; rfl, (by refine x'z ?_; repeat (with_reducible (first | exact x'a _ _ | exact x'b _ | exact x'c (by assumption) | refine x'd ?_ (by assumption) | refine x'e ?_ _ | refine x'f ?_ _ | refine x'g ?_ | refine x'h ?_ ?_ _ | refine x'i ?_ _ | refine x'j ?_ | refine x'k ?_ _ | refine x'l ?_ _ _ | refine x'm ?_ | assumption | (refine x'n ?_; omega) | omega)))⟩
                    | true =>
                      go_wp2
                      refine wp_region_ext (by kernel_rfl) (by kernel_rfl) ?_
                      repeat (go_big_quiet_step ((go_at_call 72; (try rw [hw1]); exact quietSb (l1In_any _ _ _ _) N6.out)))
                      refine wpQuiet_nil ?_
                      rintro _ ⟨zz, rfl⟩
                      go_wp2
                      exact ⟨⟨j + 1, by go_num, by omega, (by refine x'z ?_; repeat (with_reducible (first | exact x'a _ _ | exact x'b _ | exact x'c (by assumption) | refine x'd ?_ (by assumption) | refine x'e ?_ _ | refine x'f ?_ _ | refine x'g ?_ | refine x'h ?_ ?_ _ | refine x'i ?_ _ | refine x'j ?_ | refine x'k ?_ _ | refine x'l ?_ _ _ | refine x'm ?_ | assumption | (refine x'n ?_; omega) | omega))), by simpa using He2.out⟩, by simp [intOf]; omega⟩
                  · have e := Hj2.out
                    rw [allA_end hlt2] at e
                    have e2 := He.out
                    rw [← e] at e2
                    have He2 := Lib.hid e2
                    clear e e2
                    go_wp2
                    exact ⟨⟨k + 1, by go_num, by omega, hy2, by simpa using He2.out⟩, by simp [intOf]; omega⟩
          · have e := Hj.out
            rw [allA_end hlt] at e
            have HA := Lib.hid e.symm
            clear e
            go_wp2
            clear hlt Hj l1 a1 a1' a1'' f1
            go_loopw [5] (fun i wr => ∃ v : Nat, i = .int .i64 v ∧ v ≤ n ∧ (∃ y, wr = ext W y) ∧ ((mkU n (seen ats)).drop v).all id = (mkU n (seen ats)).all id) (fun i _ => n - (intOf i).toNat)
            case atStart => exact ⟨0, rfl, by omega, hy, by simp⟩
            case round =>
              obtain ⟨v, rfl, hv, hy, hj⟩ := hrel
              have Hj := Lib.hid hj
              clear hj
              obtain ⟨l1, a1, a1', a1'', f1⟩ := box3 (BoxAt.toExt (cs := #[_, _, _]) ⟨lW0, bW0, fW0⟩ hy)
              by_cases hlt : v < n
              · have hlt2 : v < (mkU n (seen ats)).length := by simpa using hlt
                have e := Hj.out
                rw [allA_step hlt2] at e
                have em : (mkU n (seen ats))[v] = decide ((v : Int) ∈ seen ats) := by simp [mkU]
                rw [em] at e
                have He := Lib.hid e
                clear e em
                go_wp2
                clear l1 a1 a1' a1'' f1
                go_loopw [6, 7] (fun s i vs => ∃ k : Nat, i = .int .i64 k ∧ s = .bool (decide ((v : Int) ∈ seen (ats.take k))) ∧ k ≤ ats.length ∧ (∃ y, vs = ext W y)) (fun _ i _ => ats.length - (intOf i).toNat)
                case atStart => exact ⟨0, rfl, by simp [seen], by omega, hy⟩
                case round =>
                  obtain ⟨k, rfl, rfl, hk, hy2⟩ := hrel
                  obtain ⟨l2, a2, a2', a2'', f2⟩ := box3 (BoxAt.toExt (cs := #[_, _, _]) ⟨lW0, bW0, fW0⟩ hy2)
                  by_cases hlt3 : k < ats.length
                  · obtain ⟨b, o, A', c', rfl, hb0, hc0, hd0, hv0⟩ := r1.atA hlt3
                    have hb : b < wr.heap.size := Nat.lt_of_lt_of_le hb0 (size_of_ext hy2)
                    have hc : wr.cell? ⟨b, o + k * 2, none⟩ = some (.string ats[k].1) := by obtain ⟨y, e⟩ := hy2; rw [e, cell_ext hb0]; exact hc0
                    have hd : wr.cell? ⟨b, o + k * 2 + 1, none⟩ = some (.slice A' ats[k].2.length c') := by obtain ⟨y, e⟩ := hy2; rw [e, cell_ext hb0]; exact hd0
                    have x2 : ats[k].2.length ≤ 1000000000 := by have := (Hx.out ats[k] (List.getElem_mem hlt3)).2; omega
                    have hst : decide ((v : Int) ∈ seen (ats.take (k + 1))) = (decide ((v : Int) ∈ seen (ats.take k)) || decide ((v : Int) ∈ ats[k].2)) := by
                      rw [seen_take hlt3, Bool.eq_iff_iff]; simp
                    obtain ⟨t7, ht7⟩ : ∃ t, decide ((v : Int) ∈ seen (ats.take k)) = t := ⟨_, rfl⟩
                    obtain ⟨t8, ht8⟩ : ∃ t, decide ((v : Int) ∈ ats[k].2) = t := ⟨_, rfl⟩
                    rw [ht7, ht8] at hst
                    rw [ht7]
                    have Hst := Lib.hid hst
                    have H8 := Lib.hid ht8
                    clear hst ht7 ht8 hc0 hd0
                    cases t7 with
                    | true =>
                      go_wp2
                      exact ⟨⟨k + 1, by go_num, by rw [Hst.out]; rfl, by omega, hy2⟩, by simp [intOf]; omega⟩
                    | false =>
                      go_wp2_with (go_at_call 74; refine (specContains_any x2 (hv0.toExt hy2)).mono ?_; rintro e w1 ⟨rfl, hx1⟩; rw [H8.out])
                      exact ⟨⟨k + 1, by go_num, by rw [Hst.out, Bool.false_or], by omega, (by refine x'z ?_; repeat (with_reducible (first | exact x'a _ _ | exact x'b _ | exact x'c (by assumption) | refine x'd ?_ (by assumption) | refine x'e ?_ _ | refine x'f ?_ _ | refine x'g ?_ | refine x'h ?_ ?_ _ | refine x'i ?_ _ | refine x'j ?_ | refine x'k ?_ _ | refine x'l ?_ _ _ | refine x'm ?_ | assumption | (refine x'n ?_; omega) | omega)))⟩, by simp [intOf]; omega⟩
                  · have ek : ats.take k = ats := List.take_of_length_le (by omega)
                    rw [ek]
                    have He2 := He.out
                    obtain ⟨t9, ht9⟩ : ∃ t, decide ((v : Int) ∈ seen ats) = t := ⟨_, rfl⟩
                    rw [ht9] at He2 ⊢
                    have HR := Lib.hid He2
                    clear ek He2 ht9
                    cases t9 with
                    | true =>
                      go_wp2
                      exact ⟨⟨v + 1, by go_num, by omega, hy2, by simpa using HR.out⟩, by simp [intOf]; omega⟩
                    | false =>
                      go_wp2
                      go_ret
                      exact ⟨by rw [HF2.out HR.out.symm]; rfl, trans_ext xW hy2⟩
              · have e := Hj.out
                rw [allA_end (by simpa using hlt)] at e
                have HU := Lib.hid (HT.out HA.out e.symm)
                clear e
                go_wp2
                clear hlt Hj l1 a1 a1' a1'' f1
                go_loopw [8] (fun i wr => ∃ k : Nat, i = .int .i64 k ∧ k ≤ out.length ∧ (∃ y, wr = ext W y) ∧ setB n (out.take k) (out.drop k) = setB n [] out) (fun i _ => out.length - (intOf i).toNat)
                case atStart => exact ⟨0, rfl, by omega, hy, by simp⟩
                case round =>
                  obtain ⟨k, rfl, hk, hy3, hj⟩ := hrel
                  have Hj := Lib.hid hj
                  clear hj
                  obtain ⟨l3, a3, a3', a3'', f3⟩ := box3 (BoxAt.toExt (cs := #[_, _, _]) ⟨lW0, bW0, fW0⟩ hy3)
                  by_cases hlt : k < out.length
                  · have r2' := r2.toExt hy3
                    obtain ⟨b, o, rfl, hb, hc⟩ := r2'.atI hlt
                    have e := Hj.out
                    rw [setB_step hlt] at e
                    obtain ⟨x, hx⟩ : ∃ x, out[k] = x := ⟨_, rfl⟩
                    rw [hx] at e hc
                    obtain ⟨t1, ht1⟩ : ∃ t, inB x 0 ((n : Int) - 1) = t := ⟨_, rfl⟩
                    obtain ⟨m, hm⟩ : ∃ m, iof 0 x (out.take k) = m := ⟨_, rfl⟩
                    have hmm := iof_nonneg (n := x) 0 (out.take k)
                    rw [hm] at hmm
                    have hp := r2'.pre k
                    have HP := Lib.hid (show (out.take k).length = k by simp; omega)
                    have T1 := Lib.hid ht1
                    have T2 := Lib.hid hm
                    have g1 : (0 : Int) ≤ (k : Int) := by omega
                    have g2 : (k : Int) ≤ (e1 : Int) := by omega
                    rw [ht1] at e
                    cases t1 with
                    | false =>
                      have He := Lib.hid e
                      clear e ht1 hm hx hmm
                      go_wp2
                      refine wp_region_ext (by kernel_rfl) (by kernel_rfl) ?_
                      repeat (go_big_quiet_step ((go_at_call 72; (try rw [hw1]); exact quietSb (l1In_any _ _ _ _) T1.out)))
                      refine wpQuiet_nil ?_
                      rintro _ ⟨zz, rfl⟩
                      go_wp2
                      go_ret
                      exact ⟨by rw [HU.out, ← He.out]; rfl, (by refine x'z ?_; repeat (with_reducible (first | exact x'a _ _ | exact x'b _ | exact x'c (by assumption) | refine x'd ?_ (by assumption) | refine x'e ?_ _ | refine x'f ?_ _ | refine x'g ?_ | refine x'h ?_ ?_ _ | refine x'i ?_ _ | refine x'j ?_ | refine x'k ?_ _ | refine x'l ?_ _ _ | refine x'm ?_ | assumption | (refine x'n ?_; omega) | omega)))⟩
                    | true =>
                      by_cases hm0 : 0 ≤ m
                      · rw [decide_eq_true (hmm.1 hm0)] at e
                        have He := Lib.hid e
                        clear e ht1 hm hx hmm
                        go_wp2
                        refine wp_region_ext (by kernel_rfl) (by kernel_rfl) ?_
                        repeat (go_big_quiet_step (first | (go_at_call 72; (try rw [hw1]); exact quietSb (l1In_any _ _ _ _) T1.out) | (go_at_call 75; exact quietEi' (l7Find_n HP.out (by omega) hp.ext) T2.out)))
                        refine wpQuiet_nil ?_
                        rintro _ ⟨zz, rfl⟩
                        go_wp2
                        go_ret
                        exact ⟨by rw [HU.out, ← He.out]; rfl, (by refine x'z ?_; repeat (with_reducible (first | exact x'a _ _ | exact x'b _ | exact x'c (by assumption) | refine x'd ?_ (by assumption) | refine x'e ?_ _ | refine x'f ?_ _ | refine x'g ?_ | refine x'h ?_ ?_ _ | refine x'i ?_ _ | refine x'j ?_ | refine x'k ?_ _ | refine x'l ?_ _ _ | refine x'm ?_ | assumption | (refine x'n ?_; omega) | omega)))⟩
                      · rw [decide_eq_false (fun h => hm0 (hmm.2 h))] at e
                        have He := Lib.hid e
                        have hm1 : m < 0 := by omega
                        clear e ht1 hm hx hmm
                        go_wp2
                        refine wp_region_ext (by kernel_rfl) (by kernel_rfl) ?_
                        repeat (go_big_quiet_step (first | (go_at_call 72; (try rw [hw1]); exact quietSb (l1In_any _ _ _ _) T1.out) | (go_at_call 75; exact quietEi' (l7Find_n HP.out (by omega) hp.ext) T2.out)))
                        refine wpQuiet_nil ?_
                        rintro _ ⟨zz, rfl⟩
                        go_wp2
                        exact ⟨⟨k + 1, by go_num, by omega, (by refine x'z ?_; repeat (with_reducible (first | exact x'a _ _ | exact x'b _ | exact x'c (by assumption) | refine x'd ?_ (by assumption) | refine x'e ?_ _ | refine x'f ?_ _ | refine x'g ?_ | refine x'h ?_ ?_ _ | refine x'i ?_ _ | refine x'j ?_ | refine x'k ?_ _ | refine x'l ?_ _ _ | refine x'm ?_ | assumption | (refine x'n ?_; omega) | omega))), by simpa using He.out⟩, by simp [intOf]; omega⟩
                  · have e := Hj.out
                    rw [setB_end hlt] at e
                    have He := Lib.hid e
                    clear e
                    go_wp2
                    go_ret
                    exact ⟨by rw [HU.out, ← He.out]; rfl, trans_ext xW hy3⟩
theorem specIsValidQuery_any {A B : Option Addr} {c e1 : Nat} {d : Qd} {w : World} (hb : BQ d) (h : vQ w [.int .i64 d.1, .slice A d.2.1.length c, .slice B d.2.2.length e1] d) :
    Calls Try.prog 28 #[.agg #[.int .i64 d.1, .slice A d.2.1.length c, .slice B d.2.2.length e1]] w fun e w' => e = .returned (.bool (vqB d)) ∧ ∃ y, w' = ext w y := specIsValidQuery_w hb.w h
end Go.Proofs.Ytbjpkfgkmilkdaa
