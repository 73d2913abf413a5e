/- Texts read as numbers and as rational numbers: the program's way and the reference's. -/
import Derived.Test.YthhdmdmjadpgjaaNumRead
import Derived.Test.YthhdmdmjadpgjaaStrs
namespace Go.Proofs.Ythhdmdmjadpgjaa
open Go.RowKit

theorem isEmpty_yes {s : ByteArray} (h : s.size = 0) : s.toList.isEmpty = true := by
  rw [ByteArray.toList_eq, List.isEmpty_iff]
  apply List.eq_nil_of_length_eq_zero
  rw [Array.length_toList]
  exact h
theorem size_zero {s : ByteArray} (h : s.size = 0) : bl s = [] := List.eq_nil_of_length_eq_zero (by rw [bl_length]; exact h)
theorem sgn_neg {s : ByteArray} (h : 0 < s.size) (hc : s[0] = 45) : sgn (bl s) = (true, bl (s.extract 1 s.size)) := by
  have h' : 0 < (bl s).length := by rw [bl_length]; exact h
  unfold sgn
  rw [if_pos]
  · rw [ext_bs, bl_bs, List.take_of_length_le (by rw [bl_length]; omega), List.drop_one]
  · rw [List.head?_eq_getElem?, List.getElem?_eq_getElem h', bl_get s h, hc]
theorem sgn_pos {s : ByteArray} (h : 0 < s.size) (hc : s[0] ≠ 45) : sgn (bl s) = (false, bl s) := by
  have h' : 0 < (bl s).length := by rw [bl_length]; exact h
  unfold sgn
  rw [if_neg]
  rw [List.head?_eq_getElem?, List.getElem?_eq_getElem h', bl_get s h]
  simpa using hc
/-- readLong behind its sign -/
def rdD (neg : Bool) (d : List UInt8) : Int × Bool := if d = [] ∨ 10 < d.length then (0, false) else match numG 0 d with
  | none => (0, false)
  | some n => (if neg = true then -n else n, true)
theorem rdL_eq {l d : List UInt8} {neg : Bool} (h : sgn l = (neg, d)) : rdL l = rdD neg d := by unfold rdL rdD; rw [h]; rfl
theorem numG_step {s : ByteArray} {k : Nat} {n : Int} (h : k < s.size) (hd : isD s[k] = true) : numG n ((bl s).drop k) = numG (10 * n + ((s[k].toNat : Int) - 48)) ((bl s).drop (k + 1)) := by
  rw [List.drop_eq_getElem_cons (by rw [bl_length]; exact h), numG, bl_get s h, if_pos hd]
theorem numG_bad {s : ByteArray} {k : Nat} {n : Int} (h : k < s.size) (hd : ¬ isD s[k] = true) : numG n ((bl s).drop k) = none := by
  rw [List.drop_eq_getElem_cons (by rw [bl_length]; exact h), numG, bl_get s h, if_neg hd]
theorem numG_end {s : ByteArray} {k : Nat} {n : Int} (h : ¬ k < s.size) : numG n ((bl s).drop k) = some n := by
  rw [List.drop_eq_nil_of_le (by rw [bl_length]; omega), numG]
theorem isD_t {b : UInt8} (h : isD b = true) : 48 ≤ (b.toNat : Int) ∧ (b.toNat : Int) ≤ 57 := by simp [isD] at h; omega
theorem isD_f {b : UInt8} (h : ¬ isD b = true) : (b.toNat : Int) < 48 ∨ 57 < (b.toNat : Int) := by simp [isD] at h; omega
theorem pow_step {n d : Int} {k : Nat} (h : n < 10 ^ k) (hd : d ≤ 9) : 10 * n + d < 10 ^ (k + 1) := by
  have : (10 : Int) ^ (k + 1) = 10 ^ k * 10 := Int.pow_succ 10 k
  omega

set_option maxHeartbeats 1000000 in
theorem readLong_any {s : ByteArray} {w : World} (hs : s.size ≤ 1000000000) :
    Calls Try.prog 22 #[.string s] w fun e w' => e = .returned (.tuple #[.int .i64 (rdL (bl s)).1, .bool (rdL (bl s)).2]) ∧ ∃ y, w' = ext w y := by
  by_cases h0 : s.size = 0
  · have he := isEmpty_yes h0
    rw [show rdL (bl s) = (0, false) by rw [size_zero h0]; rfl]
    go_enter Try.func22, Try.ntmps22
    go_wp2
    go_ret2
    exact ⟨rfl, refl_ext w⟩
  · have hpos : 0 < s.size := by omega
    have hne := isEmpty_no (s := s) (by omega)
    by_cases hc : s[0] = 45
    · have hq : ((s[0].toNat : Int) == 45) = true := by rw [hc]; rfl
      rw [rdL_eq (sgn_neg hpos hc)]
      obtain ⟨d, hd⟩ : ∃ d, s.extract 1 s.size = d := ⟨_, rfl⟩
      have hds : d.size ≤ 1000000000 := by rw [← hd, ByteArray.size_extract]; omega
      rw [hd]
      clear hc
      have hl : (bl d).length = d.size := bl_length d
      by_cases hd0 : d.size = 0
      · have he := isEmpty_yes hd0
        rw [show rdD true (bl d) = (0, false) by unfold rdD; rw [if_pos (.inl (size_zero hd0))]]
        clear hl
        go_enter Try.func22, Try.ntmps22
        go_wp2
        go_ret2
        exact ⟨rfl, refl_ext w⟩
      · have he := isEmpty_no (s := d) (by omega)
        by_cases h10 : 10 < d.size
        · rw [show rdD true (bl d) = (0, false) by unfold rdD; rw [if_pos (.inr (by omega))]]
          clear hl
          go_enter Try.func22, Try.ntmps22
          go_wp2
          go_ret2
          exact ⟨rfl, refl_ext w⟩
        · have hb : d.size ≤ 10 := by omega
          have HN : ∀ o, numG 0 (bl d) = o → rdD true (bl d) = (match o with | none => (0, false) | some n => (-n, true)) := by
            rintro o rfl
            unfold rdD
            rw [if_neg (by rintro (h | h); (rw [h] at hl; simp at hl; omega); omega)]
            rfl
          have HM := Lib.hid HN
          have hl2 : (bl d).length ≤ d.size := by omega
          have hl3 : d.size ≤ (bl d).length := by omega
          clear hl HN
          go_enter Try.func22, Try.ntmps22
          go_wp2
          go_loop [6, 7] (fun n i => ∃ (k : Nat) (m : Int), n = .int .i64 m ∧ i = .int .i64 k ∧ k ≤ d.size ∧ 0 ≤ m ∧ m < 10 ^ k ∧ numG m ((bl d).drop k) = numG 0 (bl d)) (fun _ i => d.size - (intOf i).toNat)
          case atStart => exact ⟨0, 0, rfl, rfl, by omega, by omega, by omega, by simp⟩
          case round =>
            obtain ⟨k, m, rfl, rfl, hk, hm0, hm1, hj⟩ := hrel
            have Hj := Lib.hid hj
            clear hj
            have hp := p10 (k := k) (by omega)
            have hm2 : m ≤ 100000000000 := by omega
            have Hm1 := Lib.hid hm1
            clear hm1 hp
            by_cases hlt : k < d.size
            · by_cases hd : isD d[k] = true
              · obtain ⟨q1, q2⟩ := isD_t hd
                have e := Hj.out
                rw [numG_step hlt hd] at e
                have He := Lib.hid e
                have Hd := Lib.hid hd
                clear e hd
                go_wp2
                exact ⟨⟨k + 1, 10 * m + ((d[k].toNat : Int) - 48), rfl, by go_num, by omega, by omega, pow_step Hm1.out (by omega), He.out⟩, by simp [intOf]; omega⟩
              · have e := Hj.out
                rw [numG_bad hlt hd] at e
                have He := Lib.hid e
                rcases isD_f hd with q | q
                all_goals
                  clear e hd
                  go_wp2
                  go_ret2
                  exact ⟨by rw [HM.out _ He.out.symm]; rfl, refl_ext w⟩
            · have e := Hj.out
              rw [numG_end hlt] at e
              have He := Lib.hid e
              clear e
              go_wp2
              go_ret2
              exact ⟨by rw [HM.out _ He.out.symm]; rfl, refl_ext w⟩
    · have hq : ((s[0].toNat : Int) == 45) = false := by
        rw [beq_eq_false_iff_ne]
        intro e
        exact hc (UInt8.toNat_inj.1 (by simpa using (by omega : s[0].toNat = 45)))
      rw [rdL_eq (sgn_pos hpos hc)]
      clear hc
      have hl : (bl s).length = s.size := bl_length s
      by_cases hd0 : s.size = 0
      · exact absurd hd0 h0
      · have he := isEmpty_no (s := s) (by omega)
        by_cases h10 : 10 < s.size
        · rw [show rdD false (bl s) = (0, false) by unfold rdD; rw [if_pos (.inr (by omega))]]
          clear hl
          go_enter Try.func22, Try.ntmps22
          go_wp2
          go_ret2
          exact ⟨rfl, refl_ext w⟩
        · have hb : s.size ≤ 10 := by omega
          have HN : ∀ o, numG 0 (bl s) = o → rdD false (bl s) = (match o with | none => (0, false) | some n => (n, true)) := by
            rintro o rfl
            unfold rdD
            rw [if_neg (by rintro (h | h); (rw [h] at hl; simp at hl; omega); omega)]
            rfl
          have HM := Lib.hid HN
          have hl2 : (bl s).length ≤ s.size := by omega
          have hl3 : s.size ≤ (bl s).length := by omega
          clear hl HN
          go_enter Try.func22, Try.ntmps22
          go_wp2
          go_loop [6, 7] (fun n i => ∃ (k : Nat) (m : Int), n = .int .i64 m ∧ i = .int .i64 k ∧ k ≤ s.size ∧ 0 ≤ m ∧ m < 10 ^ k ∧ numG m ((bl s).drop k) = numG 0 (bl s)) (fun _ i => s.size - (intOf i).toNat)
          case atStart => exact ⟨0, 0, rfl, rfl, by omega, by omega, by omega, by simp⟩
          case round =>
            obtain ⟨k, m, rfl, rfl, hk, hm0, hm1, hj⟩ := hrel
            have Hj := Lib.hid hj
            clear hj
            have hp := p10 (k := k) (by omega)
            have hm2 : m ≤ 100000000000 := by omega
            have Hm1 := Lib.hid hm1
            clear hm1 hp
            by_cases hlt : k < s.size
            · by_cases hd : isD s[k] = true
              · obtain ⟨q1, q2⟩ := isD_t hd
                have e := Hj.out
                rw [numG_step hlt hd] at e
                have He := Lib.hid e
                have Hd := Lib.hid hd
                clear e hd
                go_wp2
                exact ⟨⟨k + 1, 10 * m + ((s[k].toNat : Int) - 48), rfl, by go_num, by omega, by omega, pow_step Hm1.out (by omega), He.out⟩, by simp [intOf]; omega⟩
              · have e := Hj.out
                rw [numG_bad hlt hd] at e
                have He := Lib.hid e
                rcases isD_f hd with q | q
                all_goals
                  clear e hd
                  go_wp2
                  go_ret2
                  exact ⟨by rw [HM.out _ He.out.symm]; rfl, refl_ext w⟩
            · have e := Hj.out
              rw [numG_end hlt] at e
              have He := Lib.hid e
              clear e
              go_wp2
              go_ret2
              exact ⟨by rw [HM.out _ He.out.symm]; rfl, refl_ext w⟩
def l2D (neg : Bool) (d : List UInt8) : Int := if d.length < 12 then (match numG 0 d with
  | none => 0
  | some n => if neg = true then -n else n) else 0
theorem l2N_eq {l d : List UInt8} {neg : Bool} (h : sgn l = (neg, d)) : l2N l = l2D neg d := by unfold l2N l2D; rw [h]; rfl
set_option maxHeartbeats 1000000 in
theorem l2Num_any {s : ByteArray} {w : World} (hs : s.size ≤ 1000000000) :
    Calls Try.prog 30 #[.string s] w fun e w' => e = .returned (.int .i64 (l2N (bl s))) ∧ ∃ y, w' = ext w y := by
  by_cases h0 : s.size = 0
  · have h0' : ¬ 0 < s.size := by omega
    have h0'' : s.size ≤ 0 := by omega
    rw [show l2N (bl s) = 0 by rw [size_zero h0]; rfl]
    clear h0
    go_enter Try.func30, Try.ntmps30
    go_wp2
    go_loop [3, 5] (fun n i => n = .int .i64 0 ∧ i = .int .i64 0) (fun _ _ => 0)
    case atStart => exact ⟨rfl, rfl⟩
    case round =>
      obtain ⟨rfl, rfl⟩ := hrel
      go_wp2
      go_ret
      exact ⟨rfl, refl_ext w⟩
  · have hpos : 0 < s.size := by omega
    by_cases hc : s[0] = 45
    · have hq : ((s[0].toNat : Int) == 45) = true := by rw [hc]; rfl
      rw [l2N_eq (sgn_neg hpos hc)]
      obtain ⟨d, hd⟩ : ∃ d, s.extract 1 s.size = d := ⟨_, rfl⟩
      have hds : d.size ≤ 1000000000 := by rw [← hd, ByteArray.size_extract]; omega
      rw [hd]
      clear hc
      have hl : (bl d).length = d.size := bl_length d
      by_cases h12 : d.size < 12
      · have HN : ∀ o, numG 0 (bl d) = o → l2D true (bl d) = (match o with | none => 0 | some n => -n) := by
          rintro o rfl
          unfold l2D
          rw [if_pos (by omega)]
          rfl
        have HM := Lib.hid HN
        clear hl HN
        go_enter Try.func30, Try.ntmps30
        go_wp2
        go_loop [3, 5] (fun n i => ∃ (k : Nat) (m : Int), n = .int .i64 m ∧ i = .int .i64 k ∧ k ≤ d.size ∧ 0 ≤ m ∧ m < 10 ^ k ∧ numG m ((bl d).drop k) = numG 0 (bl d)) (fun _ i => d.size - (intOf i).toNat)
        case atStart => exact ⟨0, 0, rfl, rfl, by omega, by omega, by omega, by simp⟩
        case round =>
          obtain ⟨k, m, rfl, rfl, hk, hm0, hm1, hj⟩ := hrel
          have Hj := Lib.hid hj
          clear hj
          have hp := p10 (k := k) (by omega)
          have hm2 : m ≤ 100000000000 := by omega
          have Hm1 := Lib.hid hm1
          clear hm1 hp
          by_cases hlt : k < d.size
          · by_cases hd : isD d[k] = true
            · obtain ⟨q1, q2⟩ := isD_t hd
              have e := Hj.out
              rw [numG_step hlt hd] at e
              have He := Lib.hid e
              have Hd := Lib.hid hd
              clear e hd
              go_wp2
              exact ⟨⟨k + 1, 10 * m + ((d[k].toNat : Int) - 48), by congr 1; omega, by go_num, by omega, by omega, pow_step Hm1.out (by omega), He.out⟩, by simp [intOf]; omega⟩
            · have e := Hj.out
              rw [numG_bad hlt hd] at e
              have He := Lib.hid e
              rcases isD_f hd with q | q
              all_goals
                clear e hd
                go_wp2
                go_ret
                exact ⟨by rw [HM.out _ He.out.symm]; rfl, refl_ext w⟩
          · have e := Hj.out
            rw [numG_end hlt] at e
            have He := Lib.hid e
            clear e
            go_wp2
            go_ret
            exact ⟨ret_int (by first | (rw [HM.out _ He.out.symm]; done) | (rw [HM.out _ He.out.symm]; simp)), refl_ext w⟩
      · rw [show l2D true (bl d) = 0 by unfold l2D; rw [if_neg (by omega)]]
        clear hl
        go_enter Try.func30, Try.ntmps30
        go_wp2
        go_loop [3, 5] (fun n i => n = .int .i64 0 ∧ i = .int .i64 0) (fun _ _ => 0)
        case atStart => exact ⟨rfl, rfl⟩
        case round =>
          obtain ⟨rfl, rfl⟩ := hrel
          go_wp2
          go_ret
          exact ⟨ret_int (by simp), refl_ext w⟩
    · have hq : ((s[0].toNat : Int) == 45) = false := by
        rw [beq_eq_false_iff_ne]
        intro e
        exact hc (UInt8.toNat_inj.1 (by simpa using (by omega : s[0].toNat = 45)))
      rw [l2N_eq (sgn_pos hpos hc)]
      clear hc
      have hl : (bl s).length = s.size := bl_length s
      by_cases h12 : s.size < 12
      · have HN : ∀ o, numG 0 (bl s) = o → l2D false (bl s) = (match o with | none => 0 | some n => n) := by
          rintro o rfl
          unfold l2D
          rw [if_pos (by omega)]
          rfl
        have HM := Lib.hid HN
        clear hl HN
        go_enter Try.func30, Try.ntmps30
        go_wp2
        go_loop [3, 5] (fun n i => ∃ (k : Nat) (m : Int), n = .int .i64 m ∧ i = .int .i64 k ∧ k ≤ s.size ∧ 0 ≤ m ∧ m < 10 ^ k ∧ numG m ((bl s).drop k) = numG 0 (bl s)) (fun _ i => s.size - (intOf i).toNat)
        case atStart => exact ⟨0, 0, rfl, rfl, by omega, by omega, by omega, by simp⟩
        case round =>
          obtain ⟨k, m, rfl, rfl, hk, hm0, hm1, hj⟩ := hrel
          have Hj := Lib.hid hj
          clear hj
          have hp := p10 (k := k) (by omega)
          have hm2 : m ≤ 100000000000 := by omega
          have Hm1 := Lib.hid hm1
          clear hm1 hp
          by_cases hlt : k < s.size
          · by_cases hd : isD s[k] = true
            · obtain ⟨q1, q2⟩ := isD_t hd
              have e := Hj.out
              rw [numG_step hlt hd] at e
              have He := Lib.hid e
              have Hd := Lib.hid hd
              clear e hd
              go_wp2
              exact ⟨⟨k + 1, 10 * m + ((s[k].toNat : Int) - 48), by congr 1; omega, by go_num, by omega, by omega, pow_step Hm1.out (by omega), He.out⟩, by simp [intOf]; omega⟩
            · have e := Hj.out
              rw [numG_bad hlt hd] at e
              have He := Lib.hid e
              rcases isD_f hd with q | q
              all_goals
                clear e hd
                go_wp2
                go_ret
                exact ⟨by rw [HM.out _ He.out.symm]; rfl, refl_ext w⟩
          · have e := Hj.out
            rw [numG_end hlt] at e
            have He := Lib.hid e
            clear e
            go_wp2
            go_ret
            exact ⟨ret_int (by first | (rw [HM.out _ He.out.symm]; done) | (rw [HM.out _ He.out.symm]; simp)), refl_ext w⟩
      · rw [show l2D false (bl s) = 0 by unfold l2D; rw [if_neg (by omega)]]
        clear hl
        go_enter Try.func30, Try.ntmps30
        go_wp2
        go_loop [3, 5] (fun n i => n = .int .i64 0 ∧ i = .int .i64 0) (fun _ _ => 0)
        case atStart => exact ⟨rfl, rfl⟩
        case round =>
          obtain ⟨rfl, rfl⟩ := hrel
          go_wp2
          go_ret
          exact ⟨ret_int (by simp), refl_ext w⟩
theorem RV.atS2 {w : World} {A : Option Addr} {xs : List ByteArray} {p q : ByteArray} (h : RS w A xs) (h1 : 1 < xs.length) (hp : xs.getD 0 ⟨#[]⟩ = p) (hq : xs.getD 1 ⟨#[]⟩ = q) : ∃ b o, A = some ⟨b, o, none⟩ ∧ b < w.heap.size ∧ w.cell? ⟨b, o, none⟩ = some (.string p) ∧ w.cell? ⟨b, o + 1, none⟩ = some (.string q) := by
  obtain ⟨b, o, e, hb, hc⟩ := h.atS (k := 0) (by omega)
  obtain ⟨b', o', e', _, hc'⟩ := h.atS h1
  rw [e] at e'
  injection e' with e'
  injection e' with e1 e2
  subst e1 e2 hp hq
  refine ⟨b, o, e, hb, ?_, ?_⟩
  · rw [show xs.getD 0 ⟨#[]⟩ = xs[0] by simp [List.getD_eq_getElem?_getD, show 0 < xs.length by omega]]; exact hc
  · rw [show xs.getD 1 ⟨#[]⟩ = xs[1] by simp [List.getD_eq_getElem?_getD, h1]]; exact hc'
theorem RV.atS1 {w : World} {A : Option Addr} {xs : List ByteArray} {p : ByteArray} (h : RS w A xs) (h1 : 0 < xs.length) (hp : xs.getD 0 ⟨#[]⟩ = p) : ∃ b o, A = some ⟨b, o, none⟩ ∧ b < w.heap.size ∧ w.cell? ⟨b, o, none⟩ = some (.string p) := by
  obtain ⟨b, o, e, hb, hc⟩ := h.atS h1
  subst hp
  refine ⟨b, o, e, hb, ?_⟩
  rw [show xs.getD 0 ⟨#[]⟩ = xs[0] by simp [List.getD_eq_getElem?_getD, h1]]; exact hc
theorem splB_getD (c : UInt8) (s : ByteArray) (k : Nat) (hs : s.size ≤ 1000000000) : ((splB c s).getD k ⟨#[]⟩).size ≤ 1000000000 := by
  by_cases h : k < (splB c s).length
  · rw [show (splB c s).getD k ⟨#[]⟩ = (splB c s)[k] by simp [List.getD_eq_getElem?_getD, h]]
    exact Nat.le_trans (splB_piece (List.getElem_mem h)) hs
  · rw [show (splB c s).getD k ⟨#[]⟩ = ⟨#[]⟩ by simp [List.getD_eq_getElem?_getD, Nat.le_of_not_lt h]]
    decide
theorem splB_empty {c : UInt8} {s : ByteArray} (h : s.size = 0) : splB c s = [⟨#[]⟩] := by
  rw [splB, size_zero h]
  rfl
theorem split_v {s : ByteArray} {c : UInt8} {w : World} {n : Nat} (hs : s.size ≤ 1000000000) (hn : (splB c s).length = n) :
    Calls Try.prog 21 #[.string s, .int .u8 c.toNat] w fun e w' => ∃ A cap, e = .returned (.slice A n cap) ∧ (∃ y, w' = ext w y) ∧ RS w' A (splB c s) := by
  subst hn
  refine (split_any hs).mono ?_
  rintro e w' ⟨v, F, rfl, hx, hS, _⟩
  obtain ⟨A, cap, rfl, _, _, r⟩ := hS.view sS_v
  exact ⟨A, cap, rfl, hx, r⟩
theorem split_c {s : ByteArray} (m : Int) (c : UInt8) {w : World} {n : Nat} (hs : s.size ≤ 1000000000) (hn : (splB c s).length = n) (hm : (c.toNat : Int) = m) :
    Calls Try.prog 21 #[.string s, .int .u8 m] w fun e w' => ∃ A cap, e = .returned (.slice A n cap) ∧ (∃ y, w' = ext w y) ∧ RS w' A (splB c s) := by
  subst hm
  exact split_v hs hn
set_option maxHeartbeats 1000000 in
theorem ParseRational_any {s : ByteArray} {w : World} (hs : s.size ≤ 1000000000) :
    Calls Try.prog 6 #[.string s] w fun e w' => e = .returned (.tuple #[.agg #[.int .i64 ((pRat s).getD (0, 0)).1, .int .i64 ((pRat s).getD (0, 0)).2], .bool (pRat s).isSome]) ∧ ∃ y, w' = ext w y := by
  have hpos := splB_pos 47 s
  have hlen := splB_length 47 s
  obtain ⟨n, hn⟩ : ∃ n, (splB 47 s).length = n := ⟨_, rfl⟩
  have HN := Lib.hid hn
  have hn1 : 1 ≤ n := by omega
  have hn2 : n ≤ 1000000001 := by omega
  obtain ⟨p, hp⟩ : ∃ p, (splB 47 s).getD 0 ⟨#[]⟩ = p := ⟨_, rfl⟩
  have hps := splB_getD 47 s 0 hs
  rw [hp] at hps
  have HP := Lib.hid hp
  obtain ⟨⟨x, ok⟩, ha⟩ : ∃ a, rdL (bl p) = a := ⟨_, rfl⟩
  have H0 := Lib.hid ha
  cases ok with
  | false =>
    rw [show pRat s = none by unfold pRat; simp only [hp, ha]; rw [if_neg (by simp)]]
    have HT := Lib.hid (Eq.refl 0)
    clear hn hp ha
    go_enter Try.func6, Try.ntmps6
    go_wp2_with (first | (go_at_call 21; refine (split_c 47 47 hs HN.out (by decide)).mono ?_; rintro e w1 ⟨A1, c1, rfl, hx1, r1⟩; have B1 := (BoxAt.new w #[.int .i64 0, .int .i64 0] 25).toExt hx1; obtain ⟨_, l1, k1, k1', f1⟩ := box2 B1; obtain ⟨b1, o1, rfl, hb1, hc1⟩ := r1.atS1 hpos HP.out) | (go_at_call 22; refine (readLong_any (by assumption)).mono ?_; rintro e w2 ⟨rfl, hx2⟩; rw [H0.out]; have B2 := (B1.alloc _).toExt hx2; have R2 := (BoxAt.new w1 #[.int .i64 0, .int .i64 1] 25).toExt hx2; obtain ⟨_, l2, k2, k2', f2⟩ := box2 B2; obtain ⟨_, m2, n2, n2', g2⟩ := box2 R2; have hx12 := trans_ext (alloc_ext w1 (.cells #[.int .i64 0, .int .i64 1] 25)) hx2) | (go_at_call 7; refine FormatRational_any.mono ?_; rintro e w4 ⟨rfl, hx4⟩; rw [HT.out]; have B4 : BoxAt w4 w.heap.size #[.int .i64 0, .int .i64 0] := (by repeat (with_reducible (first | assumption | exact BoxAt.new _ _ _ | apply BoxAt.set2 | refine BoxAt.set2' ?_ (by omega) | apply BoxAt.setP0 | apply BoxAt.setP1 | refine BoxAt.setO ?_ (by omega) | refine BoxAt.alloc ?_ _ | refine BoxAt.drew ?_ | refine BoxAt.toExt ?_ (by assumption)))); have R4 : BoxAt w4 w1.heap.size #[.int .i64 x, .int .i64 1] := (by repeat (with_reducible (first | assumption | exact BoxAt.new _ _ _ | apply BoxAt.set2 | refine BoxAt.set2' ?_ (by omega) | apply BoxAt.setP0 | apply BoxAt.setP1 | refine BoxAt.setO ?_ (by omega) | refine BoxAt.alloc ?_ _ | refine BoxAt.drew ?_ | refine BoxAt.toExt ?_ (by assumption)))); obtain ⟨_, l4, k4, k4', f4⟩ := box2 B4; obtain ⟨_, m4, n4, n4', g4⟩ := box2 R4))
    exact bodyPost_ret (v := .tuple #[.agg #[.int .i64 0, .int .i64 0], .bool false]) (by simp [results, Try.results6, go_sem, *]) rfl ⟨rfl, (by refine Chg.isExt (F := []) ?_ (refl_ext _) (by simp); repeat (with_reducible (first | exact Chg.refl _ _ | exact Nat.le_refl _ | exact Chg.ofExt (by assumption) | refine Chg.trans0 ?_ (by assumption) | refine Chg.extS ?_ _ | refine Chg.alloc ?_ _ | refine Chg.drew ?_ | refine Chg.setCellE ?_ ?_ _ | refine le_addk ?_ _ | refine le_ext ?_ | refine le_alloc ?_ _ | refine le_setC ?_ _ _ | refine le_drew ?_ | assumption | (refine Nat.le_of_lt ?_; omega) | omega)))⟩
  | true =>
    have hs0 : s.size ≠ 0 := by
      intro h
      rw [← hp, splB_empty h] at ha
      injection ha with _ h2
      cases h2
    have hne := isEmpty_no (s := s) (by omega)
    by_cases h1 : n = 1
    · subst h1
      rw [show pRat s = fin (x, 1) s by unfold pRat; simp only [hp, ha, hn]; simp]
      clear hn hp ha
      obtain ⟨t, ht⟩ : ∃ t, ratText (x, 1) = t := ⟨_, rfl⟩
      have HT := Lib.hid ht
      by_cases hq : t = s
      · have q1 := str_beqt hq
        have q2 := str_bnet hq
        rw [show fin (x, 1) s = some (x, 1) by unfold fin; rw [if_pos ⟨ht.trans hq, hs0⟩]]
        clear hq ht
        go_enter Try.func6, Try.ntmps6
        go_wp2_with (first | (go_at_call 21; refine (split_c 47 47 hs HN.out (by decide)).mono ?_; rintro e w1 ⟨A1, c1, rfl, hx1, r1⟩; have B1 := (BoxAt.new w #[.int .i64 0, .int .i64 0] 25).toExt hx1; obtain ⟨_, l1, k1, k1', f1⟩ := box2 B1; obtain ⟨b1, o1, rfl, hb1, hc1⟩ := r1.atS1 hpos HP.out) | (go_at_call 22; refine (readLong_any (by assumption)).mono ?_; rintro e w2 ⟨rfl, hx2⟩; rw [H0.out]; have B2 := (B1.alloc _).toExt hx2; have R2 := (BoxAt.new w1 #[.int .i64 0, .int .i64 1] 25).toExt hx2; obtain ⟨_, l2, k2, k2', f2⟩ := box2 B2; obtain ⟨_, m2, n2, n2', g2⟩ := box2 R2; have hx12 := trans_ext (alloc_ext w1 (.cells #[.int .i64 0, .int .i64 1] 25)) hx2) | (go_at_call 7; refine FormatRational_any.mono ?_; rintro e w4 ⟨rfl, hx4⟩; rw [HT.out]; have B4 : BoxAt w4 w.heap.size #[.int .i64 0, .int .i64 0] := (by repeat (with_reducible (first | assumption | exact BoxAt.new _ _ _ | apply BoxAt.set2 | refine BoxAt.set2' ?_ (by omega) | apply BoxAt.setP0 | apply BoxAt.setP1 | refine BoxAt.setO ?_ (by omega) | refine BoxAt.alloc ?_ _ | refine BoxAt.drew ?_ | refine BoxAt.toExt ?_ (by assumption)))); have R4 : BoxAt w4 w1.heap.size #[.int .i64 x, .int .i64 1] := (by repeat (with_reducible (first | assumption | exact BoxAt.new _ _ _ | apply BoxAt.set2 | refine BoxAt.set2' ?_ (by omega) | apply BoxAt.setP0 | apply BoxAt.setP1 | refine BoxAt.setO ?_ (by omega) | refine BoxAt.alloc ?_ _ | refine BoxAt.drew ?_ | refine BoxAt.toExt ?_ (by assumption)))); obtain ⟨_, l4, k4, k4', f4⟩ := box2 B4; obtain ⟨_, m4, n4, n4', g4⟩ := box2 R4))
        exact bodyPost_ret (v := .tuple #[.agg #[.int .i64 x, .int .i64 1], .bool true]) (by simp [results, Try.results6, go_sem, *]) rfl ⟨rfl, (by refine Chg.isExt (F := []) ?_ (refl_ext _) (by simp); repeat (with_reducible (first | exact Chg.refl _ _ | exact Nat.le_refl _ | exact Chg.ofExt (by assumption) | refine Chg.trans0 ?_ (by assumption) | refine Chg.extS ?_ _ | refine Chg.alloc ?_ _ | refine Chg.drew ?_ | refine Chg.setCellE ?_ ?_ _ | refine le_addk ?_ _ | refine le_ext ?_ | refine le_alloc ?_ _ | refine le_setC ?_ _ _ | refine le_drew ?_ | assumption | (refine Nat.le_of_lt ?_; omega) | omega)))⟩
      · have q1 := str_beqf hq
        have q2 := str_bnef hq
        rw [show fin (x, 1) s = none by unfold fin; rw [if_neg (fun h => hq (ht.symm.trans h.1))]]
        clear hq ht
        go_enter Try.func6, Try.ntmps6
        go_wp2_with (first | (go_at_call 21; refine (split_c 47 47 hs HN.out (by decide)).mono ?_; rintro e w1 ⟨A1, c1, rfl, hx1, r1⟩; have B1 := (BoxAt.new w #[.int .i64 0, .int .i64 0] 25).toExt hx1; obtain ⟨_, l1, k1, k1', f1⟩ := box2 B1; obtain ⟨b1, o1, rfl, hb1, hc1⟩ := r1.atS1 hpos HP.out) | (go_at_call 22; refine (readLong_any (by assumption)).mono ?_; rintro e w2 ⟨rfl, hx2⟩; rw [H0.out]; have B2 := (B1.alloc _).toExt hx2; have R2 := (BoxAt.new w1 #[.int .i64 0, .int .i64 1] 25).toExt hx2; obtain ⟨_, l2, k2, k2', f2⟩ := box2 B2; obtain ⟨_, m2, n2, n2', g2⟩ := box2 R2; have hx12 := trans_ext (alloc_ext w1 (.cells #[.int .i64 0, .int .i64 1] 25)) hx2) | (go_at_call 7; refine FormatRational_any.mono ?_; rintro e w4 ⟨rfl, hx4⟩; rw [HT.out]; have B4 : BoxAt w4 w.heap.size #[.int .i64 0, .int .i64 0] := (by repeat (with_reducible (first | assumption | exact BoxAt.new _ _ _ | apply BoxAt.set2 | refine BoxAt.set2' ?_ (by omega) | apply BoxAt.setP0 | apply BoxAt.setP1 | refine BoxAt.setO ?_ (by omega) | refine BoxAt.alloc ?_ _ | refine BoxAt.drew ?_ | refine BoxAt.toExt ?_ (by assumption)))); have R4 : BoxAt w4 w1.heap.size #[.int .i64 x, .int .i64 1] := (by repeat (with_reducible (first | assumption | exact BoxAt.new _ _ _ | apply BoxAt.set2 | refine BoxAt.set2' ?_ (by omega) | apply BoxAt.setP0 | apply BoxAt.setP1 | refine BoxAt.setO ?_ (by omega) | refine BoxAt.alloc ?_ _ | refine BoxAt.drew ?_ | refine BoxAt.toExt ?_ (by assumption)))); obtain ⟨_, l4, k4, k4', f4⟩ := box2 B4; obtain ⟨_, m4, n4, n4', g4⟩ := box2 R4))
        exact bodyPost_ret (v := .tuple #[.agg #[.int .i64 0, .int .i64 0], .bool false]) (by simp [results, Try.results6, go_sem, *]) rfl ⟨rfl, (by refine Chg.isExt (F := []) ?_ (refl_ext _) (by simp); repeat (with_reducible (first | exact Chg.refl _ _ | exact Nat.le_refl _ | exact Chg.ofExt (by assumption) | refine Chg.trans0 ?_ (by assumption) | refine Chg.extS ?_ _ | refine Chg.alloc ?_ _ | refine Chg.drew ?_ | refine Chg.setCellE ?_ ?_ _ | refine le_addk ?_ _ | refine le_ext ?_ | refine le_alloc ?_ _ | refine le_setC ?_ _ _ | refine le_drew ?_ | assumption | (refine Nat.le_of_lt ?_; omega) | omega)))⟩
    · by_cases hn3 : n = 2
      · subst hn3
        have h2 : 1 < (splB 47 s).length := by omega
        obtain ⟨q, hq⟩ : ∃ p, (splB 47 s).getD 1 ⟨#[]⟩ = p := ⟨_, rfl⟩
        have hqs := splB_getD 47 s 1 hs
        rw [hq] at hqs
        have HQ := Lib.hid hq
        obtain ⟨⟨z, ok⟩, hb⟩ : ∃ a, rdL (bl q) = a := ⟨_, rfl⟩
        have H1 := Lib.hid hb
        cases ok with
        | false =>
          rw [show pRat s = none by unfold pRat; simp only [hp, hq, ha, hb, hn]; simp]
          have HT := Lib.hid (Eq.refl 0)
          clear hn hp hq ha hb h1
          go_enter Try.func6, Try.ntmps6
          go_wp2_with (first | (go_at_call 21; refine (split_c 47 47 hs HN.out (by decide)).mono ?_; rintro e w1 ⟨A1, c1, rfl, hx1, r1⟩; have B1 := (BoxAt.new w #[.int .i64 0, .int .i64 0] 25).toExt hx1; obtain ⟨_, l1, k1, k1', f1⟩ := box2 B1; obtain ⟨b1, o1, rfl, hb1, hc1, hd1⟩ := r1.atS2 h2 HP.out HQ.out) | (go_at_call 22; refine (readLong_any (by assumption)).mono ?_; rintro e w2 ⟨rfl, hx2⟩; rw [H0.out]; have B2 := (B1.alloc _).toExt hx2; have R2 := (BoxAt.new w1 #[.int .i64 0, .int .i64 1] 25).toExt hx2; obtain ⟨_, l2, k2, k2', f2⟩ := box2 B2; obtain ⟨_, m2, n2, n2', g2⟩ := box2 R2; have hx12 := trans_ext (alloc_ext w1 (.cells #[.int .i64 0, .int .i64 1] 25)) hx2; obtain ⟨b2, o2, hA2, hb2, hc2, hd2⟩ := (r1.toExt hx12).atS2 h2 HP.out HQ.out; injection hA2 with hA2; injection hA2 with e1 e2; subst e1 e2) | (go_at_call 22; refine (readLong_any (by assumption)).mono ?_; rintro e w3 ⟨rfl, hx3⟩; rw [H1.out]; have B3 : BoxAt w3 w.heap.size #[.int .i64 0, .int .i64 0] := (by repeat (with_reducible (first | assumption | exact BoxAt.new _ _ _ | apply BoxAt.set2 | refine BoxAt.set2' ?_ (by omega) | apply BoxAt.setP0 | apply BoxAt.setP1 | refine BoxAt.setO ?_ (by omega) | refine BoxAt.alloc ?_ _ | refine BoxAt.drew ?_ | refine BoxAt.toExt ?_ (by assumption)))); have R3 : BoxAt w3 w1.heap.size #[.int .i64 x, .int .i64 1] := (by repeat (with_reducible (first | assumption | exact BoxAt.new _ _ _ | apply BoxAt.set2 | refine BoxAt.set2' ?_ (by omega) | apply BoxAt.setP0 | apply BoxAt.setP1 | refine BoxAt.setO ?_ (by omega) | refine BoxAt.alloc ?_ _ | refine BoxAt.drew ?_ | refine BoxAt.toExt ?_ (by assumption)))); obtain ⟨_, l3, k3, k3', f3⟩ := box2 B3; obtain ⟨_, m3, n3, n3', g3⟩ := box2 R3) | (go_at_call 7; refine FormatRational_any.mono ?_; rintro e w4 ⟨rfl, hx4⟩; rw [HT.out]; have B4 : BoxAt w4 w.heap.size #[.int .i64 0, .int .i64 0] := (by repeat (with_reducible (first | assumption | exact BoxAt.new _ _ _ | apply BoxAt.set2 | refine BoxAt.set2' ?_ (by omega) | apply BoxAt.setP0 | apply BoxAt.setP1 | refine BoxAt.setO ?_ (by omega) | refine BoxAt.alloc ?_ _ | refine BoxAt.drew ?_ | refine BoxAt.toExt ?_ (by assumption)))); have R4 : BoxAt w4 w1.heap.size #[.int .i64 x, .int .i64 z] := (by repeat (with_reducible (first | assumption | exact BoxAt.new _ _ _ | apply BoxAt.set2 | refine BoxAt.set2' ?_ (by omega) | apply BoxAt.setP0 | apply BoxAt.setP1 | refine BoxAt.setO ?_ (by omega) | refine BoxAt.alloc ?_ _ | refine BoxAt.drew ?_ | refine BoxAt.toExt ?_ (by assumption)))); obtain ⟨_, l4, k4, k4', f4⟩ := box2 B4; obtain ⟨_, m4, n4, n4', g4⟩ := box2 R4))
          exact bodyPost_ret (v := .tuple #[.agg #[.int .i64 0, .int .i64 0], .bool false]) (by simp [results, Try.results6, go_sem, *]) rfl ⟨rfl, (by refine Chg.isExt (F := []) ?_ (refl_ext _) (by simp); repeat (with_reducible (first | exact Chg.refl _ _ | exact Nat.le_refl _ | exact Chg.ofExt (by assumption) | refine Chg.trans0 ?_ (by assumption) | refine Chg.extS ?_ _ | refine Chg.alloc ?_ _ | refine Chg.drew ?_ | refine Chg.setCellE ?_ ?_ _ | refine le_addk ?_ _ | refine le_ext ?_ | refine le_alloc ?_ _ | refine le_setC ?_ _ _ | refine le_drew ?_ | assumption | (refine Nat.le_of_lt ?_; omega) | omega)))⟩
        | true =>
          rw [show pRat s = fin (x, z) s by unfold pRat; simp only [hp, hq, ha, hb, hn]; simp]
          clear hn hp hq ha hb h1
          obtain ⟨t, ht⟩ : ∃ t, ratText (x, z) = t := ⟨_, rfl⟩
          have HT := Lib.hid ht
          by_cases hq : t = s
          · have q1 := str_beqt hq
            have q2 := str_bnet hq
            rw [show fin (x, z) s = some (x, z) by unfold fin; rw [if_pos ⟨ht.trans hq, hs0⟩]]
            clear hq ht
            go_enter Try.func6, Try.ntmps6
            go_wp2_with (first | (go_at_call 21; refine (split_c 47 47 hs HN.out (by decide)).mono ?_; rintro e w1 ⟨A1, c1, rfl, hx1, r1⟩; have B1 := (BoxAt.new w #[.int .i64 0, .int .i64 0] 25).toExt hx1; obtain ⟨_, l1, k1, k1', f1⟩ := box2 B1; obtain ⟨b1, o1, rfl, hb1, hc1, hd1⟩ := r1.atS2 h2 HP.out HQ.out) | (go_at_call 22; refine (readLong_any (by assumption)).mono ?_; rintro e w2 ⟨rfl, hx2⟩; rw [H0.out]; have B2 := (B1.alloc _).toExt hx2; have R2 := (BoxAt.new w1 #[.int .i64 0, .int .i64 1] 25).toExt hx2; obtain ⟨_, l2, k2, k2', f2⟩ := box2 B2; obtain ⟨_, m2, n2, n2', g2⟩ := box2 R2; have hx12 := trans_ext (alloc_ext w1 (.cells #[.int .i64 0, .int .i64 1] 25)) hx2; obtain ⟨b2, o2, hA2, hb2, hc2, hd2⟩ := (r1.toExt hx12).atS2 h2 HP.out HQ.out; injection hA2 with hA2; injection hA2 with e1 e2; subst e1 e2) | (go_at_call 22; refine (readLong_any (by assumption)).mono ?_; rintro e w3 ⟨rfl, hx3⟩; rw [H1.out]; have B3 : BoxAt w3 w.heap.size #[.int .i64 0, .int .i64 0] := (by repeat (with_reducible (first | assumption | exact BoxAt.new _ _ _ | apply BoxAt.set2 | refine BoxAt.set2' ?_ (by omega) | apply BoxAt.setP0 | apply BoxAt.setP1 | refine BoxAt.setO ?_ (by omega) | refine BoxAt.alloc ?_ _ | refine BoxAt.drew ?_ | refine BoxAt.toExt ?_ (by assumption)))); have R3 : BoxAt w3 w1.heap.size #[.int .i64 x, .int .i64 1] := (by repeat (with_reducible (first | assumption | exact BoxAt.new _ _ _ | apply BoxAt.set2 | refine BoxAt.set2' ?_ (by omega) | apply BoxAt.setP0 | apply BoxAt.setP1 | refine BoxAt.setO ?_ (by omega) | refine BoxAt.alloc ?_ _ | refine BoxAt.drew ?_ | refine BoxAt.toExt ?_ (by assumption)))); obtain ⟨_, l3, k3, k3', f3⟩ := box2 B3; obtain ⟨_, m3, n3, n3', g3⟩ := box2 R3) | (go_at_call 7; refine FormatRational_any.mono ?_; rintro e w4 ⟨rfl, hx4⟩; rw [HT.out]; have B4 : BoxAt w4 w.heap.size #[.int .i64 0, .int .i64 0] := (by repeat (with_reducible (first | assumption | exact BoxAt.new _ _ _ | apply BoxAt.set2 | refine BoxAt.set2' ?_ (by omega) | apply BoxAt.setP0 | apply BoxAt.setP1 | refine BoxAt.setO ?_ (by omega) | refine BoxAt.alloc ?_ _ | refine BoxAt.drew ?_ | refine BoxAt.toExt ?_ (by assumption)))); have R4 : BoxAt w4 w1.heap.size #[.int .i64 x, .int .i64 z] := (by repeat (with_reducible (first | assumption | exact BoxAt.new _ _ _ | apply BoxAt.set2 | refine BoxAt.set2' ?_ (by omega) | apply BoxAt.setP0 | apply BoxAt.setP1 | refine BoxAt.setO ?_ (by omega) | refine BoxAt.alloc ?_ _ | refine BoxAt.drew ?_ | refine BoxAt.toExt ?_ (by assumption)))); obtain ⟨_, l4, k4, k4', f4⟩ := box2 B4; obtain ⟨_, m4, n4, n4', g4⟩ := box2 R4))
            exact bodyPost_ret (v := .tuple #[.agg #[.int .i64 x, .int .i64 z], .bool true]) (by simp [results, Try.results6, go_sem, *]) rfl ⟨rfl, (by refine Chg.isExt (F := []) ?_ (refl_ext _) (by simp); repeat (with_reducible (first | exact Chg.refl _ _ | exact Nat.le_refl _ | exact Chg.ofExt (by assumption) | refine Chg.trans0 ?_ (by assumption) | refine Chg.extS ?_ _ | refine Chg.alloc ?_ _ | refine Chg.drew ?_ | refine Chg.setCellE ?_ ?_ _ | refine le_addk ?_ _ | refine le_ext ?_ | refine le_alloc ?_ _ | refine le_setC ?_ _ _ | refine le_drew ?_ | assumption | (refine Nat.le_of_lt ?_; omega) | omega)))⟩
          · have q1 := str_beqf hq
            have q2 := str_bnef hq
            rw [show fin (x, z) s = none by unfold fin; rw [if_neg (fun h => hq (ht.symm.trans h.1))]]
            clear hq ht
            go_enter Try.func6, Try.ntmps6
            go_wp2_with (first | (go_at_call 21; refine (split_c 47 47 hs HN.out (by decide)).mono ?_; rintro e w1 ⟨A1, c1, rfl, hx1, r1⟩; have B1 := (BoxAt.new w #[.int .i64 0, .int .i64 0] 25).toExt hx1; obtain ⟨_, l1, k1, k1', f1⟩ := box2 B1; obtain ⟨b1, o1, rfl, hb1, hc1, hd1⟩ := r1.atS2 h2 HP.out HQ.out) | (go_at_call 22; refine (readLong_any (by assumption)).mono ?_; rintro e w2 ⟨rfl, hx2⟩; rw [H0.out]; have B2 := (B1.alloc _).toExt hx2; have R2 := (BoxAt.new w1 #[.int .i64 0, .int .i64 1] 25).toExt hx2; obtain ⟨_, l2, k2, k2', f2⟩ := box2 B2; obtain ⟨_, m2, n2, n2', g2⟩ := box2 R2; have hx12 := trans_ext (alloc_ext w1 (.cells #[.int .i64 0, .int .i64 1] 25)) hx2; obtain ⟨b2, o2, hA2, hb2, hc2, hd2⟩ := (r1.toExt hx12).atS2 h2 HP.out HQ.out; injection hA2 with hA2; injection hA2 with e1 e2; subst e1 e2) | (go_at_call 22; refine (readLong_any (by assumption)).mono ?_; rintro e w3 ⟨rfl, hx3⟩; rw [H1.out]; have B3 : BoxAt w3 w.heap.size #[.int .i64 0, .int .i64 0] := (by repeat (with_reducible (first | assumption | exact BoxAt.new _ _ _ | apply BoxAt.set2 | refine BoxAt.set2' ?_ (by omega) | apply BoxAt.setP0 | apply BoxAt.setP1 | refine BoxAt.setO ?_ (by omega) | refine BoxAt.alloc ?_ _ | refine BoxAt.drew ?_ | refine BoxAt.toExt ?_ (by assumption)))); have R3 : BoxAt w3 w1.heap.size #[.int .i64 x, .int .i64 1] := (by repeat (with_reducible (first | assumption | exact BoxAt.new _ _ _ | apply BoxAt.set2 | refine BoxAt.set2' ?_ (by omega) | apply BoxAt.setP0 | apply BoxAt.setP1 | refine BoxAt.setO ?_ (by omega) | refine BoxAt.alloc ?_ _ | refine BoxAt.drew ?_ | refine BoxAt.toExt ?_ (by assumption)))); obtain ⟨_, l3, k3, k3', f3⟩ := box2 B3; obtain ⟨_, m3, n3, n3', g3⟩ := box2 R3) | (go_at_call 7; refine FormatRational_any.mono ?_; rintro e w4 ⟨rfl, hx4⟩; rw [HT.out]; have B4 : BoxAt w4 w.heap.size #[.int .i64 0, .int .i64 0] := (by repeat (with_reducible (first | assumption | exact BoxAt.new _ _ _ | apply BoxAt.set2 | refine BoxAt.set2' ?_ (by omega) | apply BoxAt.setP0 | apply BoxAt.setP1 | refine BoxAt.setO ?_ (by omega) | refine BoxAt.alloc ?_ _ | refine BoxAt.drew ?_ | refine BoxAt.toExt ?_ (by assumption)))); have R4 : BoxAt w4 w1.heap.size #[.int .i64 x, .int .i64 z] := (by repeat (with_reducible (first | assumption | exact BoxAt.new _ _ _ | apply BoxAt.set2 | refine BoxAt.set2' ?_ (by omega) | apply BoxAt.setP0 | apply BoxAt.setP1 | refine BoxAt.setO ?_ (by omega) | refine BoxAt.alloc ?_ _ | refine BoxAt.drew ?_ | refine BoxAt.toExt ?_ (by assumption)))); obtain ⟨_, l4, k4, k4', f4⟩ := box2 B4; obtain ⟨_, m4, n4, n4', g4⟩ := box2 R4))
            exact bodyPost_ret (v := .tuple #[.agg #[.int .i64 0, .int .i64 0], .bool false]) (by simp [results, Try.results6, go_sem, *]) rfl ⟨rfl, (by refine Chg.isExt (F := []) ?_ (refl_ext _) (by simp); repeat (with_reducible (first | exact Chg.refl _ _ | exact Nat.le_refl _ | exact Chg.ofExt (by assumption) | refine Chg.trans0 ?_ (by assumption) | refine Chg.extS ?_ _ | refine Chg.alloc ?_ _ | refine Chg.drew ?_ | refine Chg.setCellE ?_ ?_ _ | refine le_addk ?_ _ | refine le_ext ?_ | refine le_alloc ?_ _ | refine le_setC ?_ _ _ | refine le_drew ?_ | assumption | (refine Nat.le_of_lt ?_; omega) | omega)))⟩
      · rw [show pRat s = none by unfold pRat; simp only [hp, ha, hn]; simp [h1, hn3]]
        have HT := Lib.hid (Eq.refl 0)
        have h3 : 3 ≤ n := by omega
        clear hn hp ha h1 hn3
        go_enter Try.func6, Try.ntmps6
        go_wp2_with (first | (go_at_call 21; refine (split_c 47 47 hs HN.out (by decide)).mono ?_; rintro e w1 ⟨A1, c1, rfl, hx1, r1⟩; have B1 := (BoxAt.new w #[.int .i64 0, .int .i64 0] 25).toExt hx1; obtain ⟨_, l1, k1, k1', f1⟩ := box2 B1; obtain ⟨b1, o1, rfl, hb1, hc1⟩ := r1.atS1 hpos HP.out) | (go_at_call 22; refine (readLong_any (by assumption)).mono ?_; rintro e w2 ⟨rfl, hx2⟩; rw [H0.out]; have B2 := (B1.alloc _).toExt hx2; have R2 := (BoxAt.new w1 #[.int .i64 0, .int .i64 1] 25).toExt hx2; obtain ⟨_, l2, k2, k2', f2⟩ := box2 B2; obtain ⟨_, m2, n2, n2', g2⟩ := box2 R2; have hx12 := trans_ext (alloc_ext w1 (.cells #[.int .i64 0, .int .i64 1] 25)) hx2) | (go_at_call 7; refine FormatRational_any.mono ?_; rintro e w4 ⟨rfl, hx4⟩; rw [HT.out]; have B4 : BoxAt w4 w.heap.size #[.int .i64 0, .int .i64 0] := (by repeat (with_reducible (first | assumption | exact BoxAt.new _ _ _ | apply BoxAt.set2 | refine BoxAt.set2' ?_ (by omega) | apply BoxAt.setP0 | apply BoxAt.setP1 | refine BoxAt.setO ?_ (by omega) | refine BoxAt.alloc ?_ _ | refine BoxAt.drew ?_ | refine BoxAt.toExt ?_ (by assumption)))); have R4 : BoxAt w4 w1.heap.size #[.int .i64 x, .int .i64 1] := (by repeat (with_reducible (first | assumption | exact BoxAt.new _ _ _ | apply BoxAt.set2 | refine BoxAt.set2' ?_ (by omega) | apply BoxAt.setP0 | apply BoxAt.setP1 | refine BoxAt.setO ?_ (by omega) | refine BoxAt.alloc ?_ _ | refine BoxAt.drew ?_ | refine BoxAt.toExt ?_ (by assumption)))); obtain ⟨_, l4, k4, k4', f4⟩ := box2 B4; obtain ⟨_, m4, n4, n4', g4⟩ := box2 R4))
        exact bodyPost_ret (v := .tuple #[.agg #[.int .i64 0, .int .i64 0], .bool false]) (by simp [results, Try.results6, go_sem, *]) rfl ⟨rfl, (by refine Chg.isExt (F := []) ?_ (refl_ext _) (by simp); repeat (with_reducible (first | exact Chg.refl _ _ | exact Nat.le_refl _ | exact Chg.ofExt (by assumption) | refine Chg.trans0 ?_ (by assumption) | refine Chg.extS ?_ _ | refine Chg.alloc ?_ _ | refine Chg.drew ?_ | refine Chg.setCellE ?_ ?_ _ | refine le_addk ?_ _ | refine le_ext ?_ | refine le_alloc ?_ _ | refine le_setC ?_ _ _ | refine le_drew ?_ | assumption | (refine Nat.le_of_lt ?_; omega) | omega)))⟩
end Go.Proofs.Ythhdmdmjadpgjaa
