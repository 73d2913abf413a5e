/- Contracts of functions that the statements reach, joined from several texts: IntRd, FmtR, FmtD, EqQ, DrawQ3, Draw14, PList, ParR, IntRdS, ParRS, ParD. -/
import Derived.Test.YtfigcfajkilhiaaE04
import Derived.Test.YtfigcfajkilhiaaE01
import Derived.Test.YtfigcfajkilhiaaE06
import Derived.Test.YtfigcfajkilhiaaE05
import Derived.Test.YtfigcfajkilhiaaE02
import Derived.Deep.RegionLaw
import Derived.Deep.DrawnRows
import Derived.Test.YtfigcfajkilhiaaE03
import Derived.Test.YtfigcfajkilhiaaE07
/- Numbers read from text and written: the program's way and the reference's. -/
namespace Go.Proofs.Ytfigcfajkilhiaa
open Go.RowKit
theorem sgI_neg {s : ByteArray} (h : 0 < s.size) (hc : s[0] = 45) : sgI (bl s) = (true, bl (s.extract 1 s.size)) := by
  have h' : 0 < (bl s).length := by rw [bl_length]; exact h
  unfold sgI
  rw [if_pos]
  · rw [ext_bs, bl_bs, List.take_of_length_le (by rw [bl_length]; omega), List.drop_one]
  · rw [List.head?_eq_getElem?, List.getElem?_eq_getElem h', bl_get s h, hc]
theorem sgI_pos {s : ByteArray} (h : 0 < s.size) (hc : s[0] ≠ 45) : sgI (bl s) = (false, bl s) := by
  have h' : 0 < (bl s).length := by rw [bl_length]; exact h
  unfold sgI
  rw [if_neg]
  rw [List.head?_eq_getElem?, List.getElem?_eq_getElem h', bl_get s h]
  simpa using hc
theorem numB_step {s : ByteArray} {k : Nat} {n : Int} (h : k < s.size) (hd : isD s[k] = true) : numG n ((bl s).drop k) = numG (10 * n + ((s[k].toNat : Int) - 48)) ((bl s).drop (k + 1)) := by
  rw [List.drop_eq_getElem_cons (by rw [bl_length]; exact h), numG, bl_get s h, if_pos hd]
theorem numB_bad {s : ByteArray} {k : Nat} {n : Int} (h : k < s.size) (hd : ¬ isD s[k] = true) : numG n ((bl s).drop k) = none := by
  rw [List.drop_eq_getElem_cons (by rw [bl_length]; exact h), numG, bl_get s h, if_neg hd]
theorem numB_end {s : ByteArray} {k : Nat} {n : Int} (h : ¬ k < s.size) : numG n ((bl s).drop k) = some n := by
  rw [List.drop_eq_nil_of_le (by rw [bl_length]; omega), numG]
theorem isDt {b : UInt8} (h : isD b = true) : 48 ≤ (b.toNat : Int) ∧ (b.toNat : Int) ≤ 57 := by simp [isD] at h; omega
theorem isDf {b : UInt8} (h : ¬ isD b = true) : (b.toNat : Int) < 48 ∨ 57 < (b.toNat : Int) := by simp [isD] at h; omega
theorem pw_step {n d : Int} {k : Nat} (h : n < 10 ^ k) (hd : d ≤ 9) : 10 * n + d < 10 ^ (k + 1) := by
  have : (10 : Int) ^ (k + 1) = 10 ^ k * 10 := Int.pow_succ 10 k
  omega
def PiRes (s : ByteArray) (w : World) (e : Ending) (w' : World) : Prop := e = .returned (.tuple #[.int .i64 ((pInt s).getD 0), .bool (pInt s).isSome]) ∧ ∃ y, w' = ext w y
theorem piNone {s : ByteArray} {w w' : World} {e : Ending} (h : pInt s = none) (he : e = .returned (.tuple #[.int .i64 0, .bool false])) (hx : ∃ y, w' = ext w y) : PiRes s w e w' := by
  unfold PiRes
  rw [h]
  exact ⟨he, hx⟩
theorem piSome {s : ByteArray} {z : Int} {w w' : World} {e : Ending} (h : pInt s = some z) (he : e = .returned (.tuple #[.int .i64 z, .bool true])) (hx : ∃ y, w' = ext w y) : PiRes s w e w' := by
  unfold PiRes
  rw [h]
  exact ⟨he, hx⟩
theorem pInt_yes {s : ByteArray} {neg : Bool} {ds : List UInt8} {m z : Int} (hs : sgI (bl s) = (neg, ds)) (hl : ds.length ≤ 9) (hm : numG 0 ds = some m) (hz : sg1 neg m = z) (he : decI z = s) : pInt s = some z := by
  rw [pInt_num (by rw [hs]; exact hm) (by rw [hs]; exact hl), hs]
  simp only [hz]
  rw [if_pos he]
theorem pInt_no {s : ByteArray} {neg : Bool} {ds : List UInt8} {m z : Int} (hs : sgI (bl s) = (neg, ds)) (hl : ds.length ≤ 9) (hm : numG 0 ds = some m) (hz : sg1 neg m = z) (he : decI z ≠ s) : pInt s = none := by
  rw [pInt_num (by rw [hs]; exact hm) (by rw [hs]; exact hl), hs]
  simp only [hz]
  rw [if_neg he]
set_option maxHeartbeats 1000000 in
theorem ParseInt_any {s : ByteArray} {w : World} (hs : s.size ≤ 1000000000) : Calls Try.prog 130 #[.string s] w (PiRes s w) := by
  by_cases h0 : s.size = 0
  · have he := isEmpty_yes h0
    have HR := Lib.hid (show pInt s = none from pInt_empty (by rw [size_zero h0]; rfl))
    go_enter Try.func130, Try.ntmps130
    go_wp2
    go_ret2
    exact piNone HR.out rfl (by refine x'z ?_; repeat (with_reducible (first | exact x'a _ _ | exact x'b _ | exact x'c (by assumption) | refine x'd ?_ (by assumption) | refine x'e ?_ _ | refine x'f ?_ _ | refine x'g ?_ | refine x'h ?_ ?_ _ | refine x'i ?_ _ | refine x'j ?_ | refine x'k ?_ _ | refine x'l ?_ _ _ | refine x'm ?_ | assumption | (refine x'n ?_; omega) | omega)))
  · have hpos : 0 < s.size := by omega
    have hne := isEmpty_no (s := s) (by omega)
    by_cases hc : s[0] = 45
    · have hq : ((s[0].toNat : Int) == 45) = true := by rw [hc]; rfl
      have hsg := sgI_neg hpos hc
      obtain ⟨d, hd⟩ : ∃ d, s.extract 1 s.size = d := ⟨_, rfl⟩
      have hds : d.size ≤ 1000000000 := by rw [← hd, ByteArray.size_extract]; omega
      rw [hd] at hsg
      clear hc
      by_cases hd0 : d.size = 0
      · have he := isEmpty_yes hd0
        have HR := Lib.hid (show pInt s = none from pInt_empty (by rw [hsg]; exact size_zero hd0))
        clear hsg hd0
        go_enter Try.func130, Try.ntmps130
        go_wp2
        go_ret2
        exact piNone HR.out rfl (by refine x'z ?_; repeat (with_reducible (first | exact x'a _ _ | exact x'b _ | exact x'c (by assumption) | refine x'd ?_ (by assumption) | refine x'e ?_ _ | refine x'f ?_ _ | refine x'g ?_ | refine x'h ?_ ?_ _ | refine x'i ?_ _ | refine x'j ?_ | refine x'k ?_ _ | refine x'l ?_ _ _ | refine x'm ?_ | assumption | (refine x'n ?_; omega) | omega)))
      · have he := isEmpty_no (s := d) (by omega)
        by_cases h9 : 9 < d.size
        · have HR := Lib.hid (show pInt s = none from pInt_long (by rw [hsg]; show 9 < (bl d).length; rw [bl_length]; exact h9))
          clear hsg
          go_enter Try.func130, Try.ntmps130
          go_wp2
          go_ret2
          exact piNone HR.out rfl (by refine x'z ?_; repeat (with_reducible (first | exact x'a _ _ | exact x'b _ | exact x'c (by assumption) | refine x'd ?_ (by assumption) | refine x'e ?_ _ | refine x'f ?_ _ | refine x'g ?_ | refine x'h ?_ ?_ _ | refine x'i ?_ _ | refine x'j ?_ | refine x'k ?_ _ | refine x'l ?_ _ _ | refine x'm ?_ | assumption | (refine x'n ?_; omega) | omega)))
        · have hb : d.size ≤ 9 := by omega
          have HSG := Lib.hid hsg
          have HL9 := Lib.hid (show (bl d).length ≤ 9 by rw [bl_length]; exact hb)
          have HBAD := Lib.hid (fun (h : numG 0 (bl d) = none) => pInt_bad (s := s) (by rw [hsg]; exact h))
          clear hsg
          go_enter Try.func130, Try.ntmps130
          go_wp2
          go_loop [6, 7] (fun n i => ∃ (k : Nat) (m : Int), n = .int .i64 m ∧ i = .int .i64 k ∧ k ≤ d.size ∧ 0 ≤ m ∧ m < 10 ^ k ∧ numG m ((bl d).drop k) = numG 0 (bl d)) (fun _ i => d.size - (intOf i).toNat)
          case atStart => exact ⟨0, 0, rfl, rfl, by omega, by omega, by omega, by simp⟩
          case round =>
            obtain ⟨k, m, rfl, rfl, hk, hm0, hm1, hj⟩ := hrel
            have Hj := Lib.hid hj
            clear hj
            have hp := pw9 (k := k) (by omega)
            have hm2 : m ≤ 1000000000 := by omega
            have Hm1 := Lib.hid hm1
            clear hm1 hp
            by_cases hlt : k < d.size
            · by_cases hd : isD d[k] = true
              · obtain ⟨q1, q2⟩ := isDt hd
                have e := Hj.out
                rw [numB_step hlt hd] at e
                have He := Lib.hid e
                clear e hd
                go_wp2
                exact ⟨⟨k + 1, 10 * m + ((d[k].toNat : Int) - 48), rfl, by go_num, by omega, by omega, pw_step Hm1.out (by omega), He.out⟩, by simp [intOf]; omega⟩
              · have e := Hj.out
                rw [numB_bad hlt hd] at e
                have HR := Lib.hid (HBAD.out e.symm)
                rcases isDf hd with q | q
                all_goals
                  clear e hd
                  go_wp2
                  go_ret2
                  exact piNone HR.out rfl (by refine x'z ?_; repeat (with_reducible (first | exact x'a _ _ | exact x'b _ | exact x'c (by assumption) | refine x'd ?_ (by assumption) | refine x'e ?_ _ | refine x'f ?_ _ | refine x'g ?_ | refine x'h ?_ ?_ _ | refine x'i ?_ _ | refine x'j ?_ | refine x'k ?_ _ | refine x'l ?_ _ _ | refine x'm ?_ | assumption | (refine x'n ?_; omega) | omega)))
            · have e := Hj.out
              rw [numB_end hlt] at e
              have He := Lib.hid e
              clear e
              by_cases hts : decI (-m) = s
              · have HR := Lib.hid (pInt_yes HSG.out HL9.out He.out.symm (show sg1 true m = -m from rfl) hts)
                have q1 := str_beqt hts
                have q2 := str_bnet hts
                clear hts
                go_wp2_with (go_at_call 133; refine (FormatInt_any (by omega) (by omega)).mono ?_; rintro e w2 ⟨rfl, hx2⟩)
                go_ret2
                exact piSome HR.out rfl (by refine x'z ?_; repeat (with_reducible (first | exact x'a _ _ | exact x'b _ | exact x'c (by assumption) | refine x'd ?_ (by assumption) | refine x'e ?_ _ | refine x'f ?_ _ | refine x'g ?_ | refine x'h ?_ ?_ _ | refine x'i ?_ _ | refine x'j ?_ | refine x'k ?_ _ | refine x'l ?_ _ _ | refine x'm ?_ | assumption | (refine x'n ?_; omega) | omega)))
              · have HR := Lib.hid (pInt_no HSG.out HL9.out He.out.symm (show sg1 true m = -m from rfl) hts)
                have q1 := str_beqf hts
                have q2 := str_bnef hts
                clear hts
                go_wp2_with (go_at_call 133; refine (FormatInt_any (by omega) (by omega)).mono ?_; rintro e w2 ⟨rfl, hx2⟩)
                go_ret2
                exact piNone HR.out rfl (by refine x'z ?_; repeat (with_reducible (first | exact x'a _ _ | exact x'b _ | exact x'c (by assumption) | refine x'd ?_ (by assumption) | refine x'e ?_ _ | refine x'f ?_ _ | refine x'g ?_ | refine x'h ?_ ?_ _ | refine x'i ?_ _ | refine x'j ?_ | refine x'k ?_ _ | refine x'l ?_ _ _ | refine x'm ?_ | assumption | (refine x'n ?_; omega) | omega)))
    · have hq : ((s[0].toNat : Int) == 45) = false := by
        rw [beq_eq_false_iff_ne]
        intro e
        exact hc (UInt8.toNat_inj.1 (by simpa using (by omega : s[0].toNat = 45)))
      have hsg := sgI_pos hpos hc
      clear hc
      by_cases hd0 : s.size = 0
      · exact absurd hd0 h0
      · have he := isEmpty_no (s := s) (by omega)
        by_cases h9 : 9 < s.size
        · have HR := Lib.hid (show pInt s = none from pInt_long (by rw [hsg]; show 9 < (bl s).length; rw [bl_length]; exact h9))
          clear hsg
          go_enter Try.func130, Try.ntmps130
          go_wp2
          go_ret2
          exact piNone HR.out rfl (by refine x'z ?_; repeat (with_reducible (first | exact x'a _ _ | exact x'b _ | exact x'c (by assumption) | refine x'd ?_ (by assumption) | refine x'e ?_ _ | refine x'f ?_ _ | refine x'g ?_ | refine x'h ?_ ?_ _ | refine x'i ?_ _ | refine x'j ?_ | refine x'k ?_ _ | refine x'l ?_ _ _ | refine x'm ?_ | assumption | (refine x'n ?_; omega) | omega)))
        · have hb : s.size ≤ 9 := by omega
          have HSG := Lib.hid hsg
          have HL9 := Lib.hid (show (bl s).length ≤ 9 by rw [bl_length]; exact hb)
          have HBAD := Lib.hid (fun (h : numG 0 (bl s) = none) => pInt_bad (s := s) (by rw [hsg]; exact h))
          clear hsg
          go_enter Try.func130, Try.ntmps130
          go_wp2
          go_loop [6, 7] (fun n i => ∃ (k : Nat) (m : Int), n = .int .i64 m ∧ i = .int .i64 k ∧ k ≤ s.size ∧ 0 ≤ m ∧ m < 10 ^ k ∧ numG m ((bl s).drop k) = numG 0 (bl s)) (fun _ i => s.size - (intOf i).toNat)
          case atStart => exact ⟨0, 0, rfl, rfl, by omega, by omega, by omega, by simp⟩
          case round =>
            obtain ⟨k, m, rfl, rfl, hk, hm0, hm1, hj⟩ := hrel
            have Hj := Lib.hid hj
            clear hj
            have hp := pw9 (k := k) (by omega)
            have hm2 : m ≤ 1000000000 := by omega
            have Hm1 := Lib.hid hm1
            clear hm1 hp
            by_cases hlt : k < s.size
            · by_cases hd : isD s[k] = true
              · obtain ⟨q1, q2⟩ := isDt hd
                have e := Hj.out
                rw [numB_step hlt hd] at e
                have He := Lib.hid e
                clear e hd
                go_wp2
                exact ⟨⟨k + 1, 10 * m + ((s[k].toNat : Int) - 48), rfl, by go_num, by omega, by omega, pw_step Hm1.out (by omega), He.out⟩, by simp [intOf]; omega⟩
              · have e := Hj.out
                rw [numB_bad hlt hd] at e
                have HR := Lib.hid (HBAD.out e.symm)
                rcases isDf hd with q | q
                all_goals
                  clear e hd
                  go_wp2
                  go_ret2
                  exact piNone HR.out rfl (by refine x'z ?_; repeat (with_reducible (first | exact x'a _ _ | exact x'b _ | exact x'c (by assumption) | refine x'd ?_ (by assumption) | refine x'e ?_ _ | refine x'f ?_ _ | refine x'g ?_ | refine x'h ?_ ?_ _ | refine x'i ?_ _ | refine x'j ?_ | refine x'k ?_ _ | refine x'l ?_ _ _ | refine x'm ?_ | assumption | (refine x'n ?_; omega) | omega)))
            · have e := Hj.out
              rw [numB_end hlt] at e
              have He := Lib.hid e
              clear e
              by_cases hts : decI (m) = s
              · have HR := Lib.hid (pInt_yes HSG.out HL9.out He.out.symm (show sg1 false m = m from rfl) hts)
                have q1 := str_beqt hts
                have q2 := str_bnet hts
                clear hts
                go_wp2_with (go_at_call 133; refine (FormatInt_any (by omega) (by omega)).mono ?_; rintro e w2 ⟨rfl, hx2⟩)
                go_ret2
                exact piSome HR.out rfl (by refine x'z ?_; repeat (with_reducible (first | exact x'a _ _ | exact x'b _ | exact x'c (by assumption) | refine x'd ?_ (by assumption) | refine x'e ?_ _ | refine x'f ?_ _ | refine x'g ?_ | refine x'h ?_ ?_ _ | refine x'i ?_ _ | refine x'j ?_ | refine x'k ?_ _ | refine x'l ?_ _ _ | refine x'm ?_ | assumption | (refine x'n ?_; omega) | omega)))
              · have HR := Lib.hid (pInt_no HSG.out HL9.out He.out.symm (show sg1 false m = m from rfl) hts)
                have q1 := str_beqf hts
                have q2 := str_bnef hts
                clear hts
                go_wp2_with (go_at_call 133; refine (FormatInt_any (by omega) (by omega)).mono ?_; rintro e w2 ⟨rfl, hx2⟩)
                go_ret2
                exact piNone HR.out rfl (by refine x'z ?_; repeat (with_reducible (first | exact x'a _ _ | exact x'b _ | exact x'c (by assumption) | refine x'd ?_ (by assumption) | refine x'e ?_ _ | refine x'f ?_ _ | refine x'g ?_ | refine x'h ?_ ?_ _ | refine x'i ?_ _ | refine x'j ?_ | refine x'k ?_ _ | refine x'l ?_ _ _ | refine x'm ?_ | assumption | (refine x'n ?_; omega) | omega)))
end Go.Proofs.Ytfigcfajkilhiaa

/- Relations and databases written as text: the program's way and the reference's. -/
namespace Go.Proofs.Ytfigcfajkilhiaa
open Go.RowKit
theorem conv1f (w : World) (b o cap : Nat) (n : Int) (h : w.cell? ⟨b, o, none⟩ = some (.int .u8 n)) : (convert 62 9 (.slice (some ⟨b, o, none⟩) 1 cap)).run Try.prog w = .ok (.string (bs [UInt8.ofNat n.toNat])) w :=
  run_convert_bytes_arg w _ _ Try.underlying62 Try.underlying5 b o 1 cap [n] rfl (fun i hi => by
    have : i = 0 := by omega
    subst this
    simpa using h) _ Try.underlying9
theorem sfi_step {m z r q : Int} {ds : List UInt8} (_hm : m ≠ 0) (h : dec m.natAbs ++ ds = dec z.natAbs) (hr : r = m.natAbs % 10) (hq : q.natAbs = m.natAbs / 10) : (q = 0 ∧ UInt8.ofNat (48 + r).toNat :: ds = dec z.natAbs) ∨ (q ≠ 0 ∧ dec q.natAbs ++ (UInt8.ofNat (48 + r).toNat :: ds) = dec z.natAbs) := by
  by_cases h0 : m.natAbs < 10
  · exact .inl ⟨by omega, by rw [fmt_last h0 (by omega), h]⟩
  · exact .inr ⟨by omega, by rw [fmt_more h0 hr hq, h]⟩
set_option maxHeartbeats 1000000 in
theorem specFormatInt_any {z : Int} {w : World} (h1 : -9223372036854775808 ≤ z) (h2 : z ≤ 9223372036854775807) :
    Calls Try.prog 169 #[.int .i64 z] w fun e w' => e = .returned (.string (decI z)) ∧ ∃ y, w' = ext w y := by
  by_cases h0 : z = 0
  · subst h0
    go_enter Try.func169, Try.ntmps169
    go_wp2
    go_ret
    exact ⟨by rw [← decI_one (by omega) (by omega)]; rfl, (by refine x'z ?_; repeat (with_reducible (first | exact x'a _ _ | exact x'b _ | exact x'c (by assumption) | refine x'd ?_ (by assumption) | refine x'e ?_ _ | refine x'f ?_ _ | refine x'g ?_ | refine x'h ?_ ?_ _ | refine x'i ?_ _ | refine x'j ?_ | refine x'k ?_ _ | refine x'l ?_ _ _ | refine x'm ?_ | assumption | (refine x'n ?_; omega) | omega)))⟩
  · have hzz : (z == 0) = false := by simpa using h0
    have kc := conv1f
    go_enter Try.func169, Try.ntmps169
    go_wp2
    go_loopw [0, 3] (fun n v wr => ∃ (m : Int) (ds : List UInt8), n = .int .i64 m ∧ v = .string (bs ds) ∧ -9223372036854775808 ≤ m ∧ m ≤ 9223372036854775807 ∧ (m < 0 → z < 0) ∧ (0 < m → 0 < z) ∧ (∃ y, wr = ext w y) ∧ ds.length ≤ 19 ∧ Hid ((m = 0 ∧ ds = dec z.natAbs) ∨ (m ≠ 0 ∧ dec m.natAbs ++ ds = dec z.natAbs))) (fun n _ _ => (intOf n).natAbs)
    case atStart => exact ⟨z, [], rfl, rfl, h1, h2, id, id, refl_ext w, by simp, Lib.hid (.inr ⟨h0, by simp⟩)⟩
    case round =>
      obtain ⟨m, ds, rfl, rfl, p1, p2, hn, hp, hy, hl, HH⟩ := hrel
      have hbs : (bs ds).size = ds.length := bs_size ds
      by_cases hm : m = 0
      · have HE := Lib.hid (show ds = dec z.natAbs by
          rcases HH.out with h | h
          · exact h.2
          · exact absurd hm h.1)
        clear HH
        subst hm
        by_cases hz : z < 0
        · have HR := Lib.hid (show (⟨#[45]⟩ : ByteArray) ++ bs ds = decI z from fmt_neg hz HE.out)
          go_wp2
          go_ret
          exact ⟨by rw [← HR.out]; rfl, hy⟩
        · have HR := Lib.hid (show bs ds = decI z from fmt_pos (by omega) HE.out)
          go_wp2
          go_ret
          exact ⟨by rw [← HR.out]; rfl, hy⟩
      · have hmm : (m != 0) = true := by simpa using hm
        have HE := Lib.hid (show dec m.natAbs ++ ds = dec z.natAbs by
          rcases HH.out with h | h
          · exact absurd h.1 hm
          · exact h.2)
        have hdl : ds.length + (dec m.natAbs).length ≤ 19 := by
          have h := congrArg List.length HE.out
          have h2 := dec_length 19 z.natAbs (by omega) (by omega)
          simp only [List.length_append] at h
          omega
        have hdp := List.length_pos_iff.2 (dec_ne m.natAbs)
        clear HH
        by_cases hneg : m < 0
        · have e1 := neg_td (z := m) (by omega)
          have e2 := neg_tm (z := m) (by omega)
          have t1 : m.tdiv 10 ≤ 0 := by omega
          have t2 : -922337203685477580 ≤ m.tdiv 10 := by omega
          have t3 : m.tmod 10 ≤ 0 := by omega
          have t4 : -9 ≤ m.tmod 10 := by omega
          have t5 : (m.tdiv 10).natAbs = m.natAbs / 10 := by omega
          have t6 : (m.tmod 10).natAbs = m.natAbs % 10 := by omega
          have t7 : (m.tdiv 10).natAbs < m.natAbs := by omega
          have HS := Lib.hid (sfi_step (r := -m.tmod 10) (q := m.tdiv 10) hm HE.out (by omega) t5)
          have HZ := Lib.hid (hn hneg)
          clear e1 e2 hn hp
          by_cases c4 : m.tmod 10 < 0
          · have u3 : (bs [UInt8.ofNat (48 + -m.tmod 10).toNat]).size = 1 := bs_size _
            go_wp2
            exact ⟨⟨m.tdiv 10, UInt8.ofNat (48 + -m.tmod 10).toNat :: ds, rfl, by rw [bs_append]; rfl, by omega, by omega, fun _ => HZ.out, fun h => by omega, (by refine x'z ?_; repeat (with_reducible (first | exact x'a _ _ | exact x'b _ | exact x'c (by assumption) | refine x'd ?_ (by assumption) | refine x'e ?_ _ | refine x'f ?_ _ | refine x'g ?_ | refine x'h ?_ ?_ _ | refine x'i ?_ _ | refine x'j ?_ | refine x'k ?_ _ | refine x'l ?_ _ _ | refine x'm ?_ | assumption | (refine x'n ?_; omega) | omega))), by simp only [List.length_cons]; omega, HS⟩, by simpa [intOf] using t7⟩
          · have HS := Lib.hid (sfi_step (r := m.tmod 10) (q := m.tdiv 10) hm HE.out (by omega) t5)
            have u3 : (bs [UInt8.ofNat (48 + m.tmod 10).toNat]).size = 1 := bs_size _
            go_wp2
            exact ⟨⟨m.tdiv 10, UInt8.ofNat (48 + m.tmod 10).toNat :: ds, rfl, by rw [bs_append]; rfl, by omega, by omega, fun _ => HZ.out, fun h => by omega, (by refine x'z ?_; repeat (with_reducible (first | exact x'a _ _ | exact x'b _ | exact x'c (by assumption) | refine x'd ?_ (by assumption) | refine x'e ?_ _ | refine x'f ?_ _ | refine x'g ?_ | refine x'h ?_ ?_ _ | refine x'i ?_ _ | refine x'j ?_ | refine x'k ?_ _ | refine x'l ?_ _ _ | refine x'm ?_ | assumption | (refine x'n ?_; omega) | omega))), by simp only [List.length_cons]; omega, HS⟩, by simpa [intOf] using t7⟩
        · have e1 := Int.tdiv_eq_ediv_of_nonneg (a := m) (b := 10) (by omega)
          have e2 := Int.tmod_eq_emod_of_nonneg (a := m) (b := 10) (by omega)
          have t1 : 0 ≤ m.tdiv 10 := by omega
          have t2 : m.tdiv 10 ≤ 922337203685477580 := by omega
          have t3 : 0 ≤ m.tmod 10 := by omega
          have t4 : m.tmod 10 ≤ 9 := by omega
          have t5 : (m.tdiv 10).natAbs = m.natAbs / 10 := by omega
          have t6 : (m.tmod 10).natAbs = m.natAbs % 10 := by omega
          have t7 : (m.tdiv 10).natAbs < m.natAbs := by omega
          have HS := Lib.hid (sfi_step (r := m % 10) (q := m.tdiv 10) hm HE.out (by omega) t5)
          have HZ := Lib.hid (hp (by omega))
          have u3 : (bs [UInt8.ofNat (48 + m % 10).toNat]).size = 1 := bs_size _
          clear e1 e2 hn hp
          go_wp2
          exact ⟨⟨m.tdiv 10, UInt8.ofNat (48 + m % 10).toNat :: ds, rfl, by rw [bs_append]; rfl, by omega, by omega, fun h => by omega, fun _ => HZ.out, (by refine x'z ?_; repeat (with_reducible (first | exact x'a _ _ | exact x'b _ | exact x'c (by assumption) | refine x'd ?_ (by assumption) | refine x'e ?_ _ | refine x'f ?_ _ | refine x'g ?_ | refine x'h ?_ ?_ _ | refine x'i ?_ _ | refine x'j ?_ | refine x'k ?_ _ | refine x'l ?_ _ _ | refine x'm ?_ | assumption | (refine x'n ?_; omega) | omega))), by simp only [List.length_cons]; omega, HS⟩, by simpa [intOf] using t7⟩
set_option maxHeartbeats 1000000 in
theorem formatList_any {A : Option Addr} {c : Nat} {xs : List Int} {sep : ByteArray} {w : World} (hx : xs.length ≤ 1000000) (hv : ∀ v ∈ xs, I64 v) (hs : sep.size ≤ 1000000000) (h1 : RI w A xs) :
    Calls Try.prog 132 #[.slice A xs.length c, .string sep] w fun e w' => e = .returned (.string (joinF sep 0 ⟨#[]⟩ (xs.map decI))) ∧ ∃ y, w' = ext w y := by
  have Hx := Lib.hid hv
  clear hv
  go_enter Try.func132, Try.ntmps132
  go_wp2
  go_loopw [5, 10] (fun v i wr => ∃ (k : Nat) (F : List Nat), i = .int .i64 k ∧ k ≤ xs.length ∧ SV 9 1 sS wr v ((xs.take k).map decI) F ∧ (∀ b ∈ F, w.heap.size ≤ b) ∧ ∃ y, wr = ext w y) (fun _ i _ => xs.length - (intOf i).toNat)
  case atStart => exact ⟨0, [], rfl, by omega, SV.nil, by simp, refl_ext _⟩
  case round =>
    obtain ⟨k, F, rfl, hk, hS, hF, hy⟩ := hrel
    have HF := Lib.hid hF
    clear hF
    by_cases hlt : k < xs.length
    · obtain ⟨b, o, rfl, hb, hc⟩ := (h1.toExt hy).atI hlt
      obtain ⟨x1, x2⟩ := Hx.out xs[k] (List.getElem_mem hlt)
      have HS := Lib.hid (show ((xs.take k).map decI) ++ [decI xs[k]] = (xs.take (k + 1)).map decI by rw [List.take_succ_eq_append_getElem hlt, List.map_append]; rfl)
      have hlk : ((xs.take k).map decI).length + 1 ≤ 2000000000 := by simp; omega
      obtain ⟨n, hn⟩ : ∃ n, xs[k] = n := ⟨_, rfl⟩
      rw [hn] at hc x1 x2 HS
      clear hn
      go_wp2_with (first
        | (go_at_call 133; refine (FormatInt_any x1 x2).mono ?_; rintro e w2 ⟨rfl, hx2⟩)
        | (at_builtin; refine wpList_app1 (E := sS) (d := decI n) rfl _ _ _ rfl tS rfl rfl rfl (by simp) (fun _ => ⟨rfl, rfl⟩) rfl (by simp [Value.oneCell']) (hS.toExt (by refine x'z ?_; repeat (with_reducible (first | exact x'a _ _ | exact x'b _ | exact x'c (by assumption) | refine x'd ?_ (by assumption) | refine x'e ?_ _ | refine x'f ?_ _ | refine x'g ?_ | refine x'h ?_ ?_ _ | refine x'i ?_ _ | refine x'j ?_ | refine x'k ?_ _ | refine x'l ?_ _ _ | refine x'm ?_ | assumption | (refine x'n ?_; omega) | omega)))) hlk (by omega) ?_; intro v' w' F' hS' hC' hF'))
      exact ⟨⟨k + 1, F', by go_num, by omega, by rw [← HS.out]; exact hS', newer HF.out (size_of_ext (by refine x'z ?_; repeat (with_reducible (first | exact x'a _ _ | exact x'b _ | exact x'c (by assumption) | refine x'd ?_ (by assumption) | refine x'e ?_ _ | refine x'f ?_ _ | refine x'g ?_ | refine x'h ?_ ?_ _ | refine x'i ?_ _ | refine x'j ?_ | refine x'k ?_ _ | refine x'l ?_ _ _ | refine x'm ?_ | assumption | (refine x'n ?_; omega) | omega)))) hF', hC'.isExt (by refine x'z ?_; repeat (with_reducible (first | exact x'a _ _ | exact x'b _ | exact x'c (by assumption) | refine x'd ?_ (by assumption) | refine x'e ?_ _ | refine x'f ?_ _ | refine x'g ?_ | refine x'h ?_ ?_ _ | refine x'i ?_ _ | refine x'j ?_ | refine x'k ?_ _ | refine x'l ?_ _ _ | refine x'm ?_ | assumption | (refine x'n ?_; omega) | omega))) HF.out⟩, by simp [intOf]; omega⟩
    · rw [List.take_of_length_le (by omega)] at hS
      obtain ⟨A2, c2, rfl, _, _, hV⟩ := hS.view sS_v
      have HJ := Lib.hid (show ∀ j (h : j < (xs.map decI).length), (xs.map decI)[j].size ≤ 1000000000 by
        intro j h
        have h' : j < xs.length := by simpa using h
        obtain ⟨x1, x2⟩ := Hx.out xs[j] (List.getElem_mem h')
        have := decI_size x1 x2
        simp
        omega)
      rw [List.length_map] at *
      go_wp2_with (go_at_call 134; refine (join_n (ps := xs.map decI) (by simp) (by omega) (hV.toExt (by refine x'z ?_; repeat (with_reducible (first | exact x'a _ _ | exact x'b _ | exact x'c (by assumption) | refine x'd ?_ (by assumption) | refine x'e ?_ _ | refine x'f ?_ _ | refine x'g ?_ | refine x'h ?_ ?_ _ | refine x'i ?_ _ | refine x'j ?_ | refine x'k ?_ _ | refine x'l ?_ _ _ | refine x'm ?_ | assumption | (refine x'n ?_; omega) | omega)))) hs HJ.out).mono ?_; rintro e w3 ⟨rfl, hx3⟩)
      go_ret
      exact ⟨rfl, (by refine x'z ?_; repeat (with_reducible (first | exact x'a _ _ | exact x'b _ | exact x'c (by assumption) | refine x'd ?_ (by assumption) | refine x'e ?_ _ | refine x'f ?_ _ | refine x'g ?_ | refine x'h ?_ ?_ _ | refine x'i ?_ _ | refine x'j ?_ | refine x'k ?_ _ | refine x'l ?_ _ _ | refine x'm ?_ | assumption | (refine x'n ?_; omega) | omega)))⟩
set_option maxRecDepth 100000 in
set_option maxHeartbeats 4000000 in
theorem FormatRelation_w {a : Int} {A : Option Addr} {c : Nat} {rows : List (List Int)} {w : World} (hx : rows.length ≤ 1000000000) (hxl : ∀ x ∈ rows, x.length ≤ 1000000000) (h1 : RII w A rows) :
    Calls Try.prog 54 #[.agg #[.int .i64 a, .slice A rows.length c]] w fun e w' => e = .returned (.string (fmtR (a, rows))) ∧ ∃ y, w' = ext w y := by
  have HXL := Lib.hid hxl
  obtain ⟨t, ht⟩ : ∃ t, rowsB a rows = t := ⟨_, rfl⟩
  have HT := Lib.hid ht
  clear hxl
  cases t with
  | false =>
    have HE := Lib.hid (show fmtR (a, rows) = ⟨#[]⟩ by unfold fmtR; rw [ht]; rfl)
    clear ht
    go_enter Try.func54, Try.ntmps54
    go_wp2_with (go_at_call 122; refine (IsValidRelation_w hx HXL.out (h1.toExt (by refine x'z ?_; repeat (with_reducible (first | exact x'a _ _ | exact x'b _ | exact x'c (by assumption) | refine x'd ?_ (by assumption) | refine x'e ?_ _ | refine x'f ?_ _ | refine x'g ?_ | refine x'h ?_ ?_ _ | refine x'i ?_ _ | refine x'j ?_ | refine x'k ?_ _ | refine x'l ?_ _ _ | refine x'm ?_ | assumption | (refine x'n ?_; omega) | omega))))).mono ?_; rintro e w1 ⟨rfl, hx1⟩; rw [HT.out])
    go_ret
    exact ⟨by rw [HE.out]; rfl, (by refine x'z ?_; repeat (with_reducible (first | exact x'a _ _ | exact x'b _ | exact x'c (by assumption) | refine x'd ?_ (by assumption) | refine x'e ?_ _ | refine x'f ?_ _ | refine x'g ?_ | refine x'h ?_ ?_ _ | refine x'i ?_ _ | refine x'j ?_ | refine x'k ?_ _ | refine x'l ?_ _ _ | refine x'm ?_ | assumption | (refine x'n ?_; omega) | omega)))⟩
  | true =>
    have HE := Lib.hid (show fmtR (a, rows) = decI a ++ ⟨#[58]⟩ ++ joinF ⟨#[32]⟩ 0 ⟨#[]⟩ (rows.map rowTx) by unfold fmtR; rw [if_pos ht]; rfl)
    have hsz := rowsB_sz (d := (a, rows)) ht
    have HS5 := Lib.hid hsz.rl
    have HV5 := Lib.hid hsz.rv
    have hn := hsz.n
    obtain ⟨a0, a1⟩ := hsz.a
    dsimp only at hn a0 a1
    clear ht hsz
    go_enter Try.func54, Try.ntmps54
    go_upto_region 2 with (go_at_call 122; refine (IsValidRelation_w hx HXL.out (h1.toExt (by refine x'z ?_; repeat (with_reducible (first | exact x'a _ _ | exact x'b _ | exact x'c (by assumption) | refine x'd ?_ (by assumption) | refine x'e ?_ _ | refine x'f ?_ _ | refine x'g ?_ | refine x'h ?_ ?_ _ | refine x'i ?_ _ | refine x'j ?_ | refine x'k ?_ _ | refine x'l ?_ _ _ | refine x'm ?_ | assumption | (refine x'n ?_; omega) | omega))))).mono ?_; rintro e w1 ⟨rfl, hx1⟩; rw [HT.out]; have P1 := (BoxAt.new w #[.int .i64 a, .slice A rows.length c] 39).toExt hx1; obtain ⟨l1, p1, p1', f1⟩ := bx2 P1)
    have hxw : ∃ y, w1 = ext w y := (by refine x'z ?_; repeat (with_reducible (first | exact x'a _ _ | exact x'b _ | exact x'c (by assumption) | refine x'd ?_ (by assumption) | refine x'e ?_ _ | refine x'f ?_ _ | refine x'g ?_ | refine x'h ?_ ?_ _ | refine x'i ?_ _ | refine x'j ?_ | refine x'k ?_ _ | refine x'l ?_ _ _ | refine x'm ?_ | assumption | (refine x'n ?_; omega) | omega)))
    go_wp2
    clear l1 p1 p1' f1
    go_loopw [3, 12] (fun v i wr => ∃ (k : Nat) (F : List Nat), i = .int .i64 k ∧ k ≤ rows.length ∧ SV 9 1 sS wr v ((rows.take k).map rowTx) F ∧ (∀ b ∈ F, w1.heap.size ≤ b) ∧ ∃ y, wr = ext w1 y) (fun _ i _ => rows.length - (intOf i).toNat)
    case atStart => exact ⟨0, [], rfl, by omega, SV.nil, by simp, refl_ext _⟩
    case round =>
      obtain ⟨k, F, rfl, hk, hS, hF, hy⟩ := hrel
      have HF := Lib.hid hF
      clear hF
      by_cases hlt : k < rows.length
      · obtain ⟨b, o, A', c', rfl, hb, hc, hv⟩ := (h1.toExt (trans_ext hxw hy)).atV hlt
        have hr5 := HS5.out _ (List.getElem_mem hlt)
        have HRV := Lib.hid (HV5.out _ (List.getElem_mem hlt))
        obtain ⟨r, hr⟩ : ∃ r, rows[k] = r := ⟨_, rfl⟩
        have HS := Lib.hid (show ((rows.take k).map rowTx) ++ [rowTx r] = (rows.take (k + 1)).map rowTx by rw [List.take_succ_eq_append_getElem hlt, List.map_append, ← hr]; rfl)
        rw [hr] at hc hv hr5 HRV
        have hlk : ((rows.take k).map rowTx).length + 1 ≤ 2000000000 := by simp; omega
        have hn5 := nums_sz hr5 HRV.out r.length
        rw [List.take_length] at hn5
        have HI := Lib.hid (show ∀ v ∈ r, I64 v from fun v hm => by have := HRV.out v hm; exact ⟨by omega, by omega⟩)
        obtain ⟨J, hJ⟩ : ∃ J, joinF ⟨#[44]⟩ 0 ⟨#[]⟩ (r.map decI) = J := ⟨_, rfl⟩
        rw [hJ] at hn5
        have HT2 := Lib.hid (show ⟨#[40]⟩ ++ J ++ ⟨#[41]⟩ = rowTx r by rw [← hJ]; rfl)
        have HJ := Lib.hid hJ
        have z5 : (ByteArray.mk #[40]).size = 1 := rfl
        have z6 : (ByteArray.mk #[41]).size = 1 := rfl
        have z2 := ba_size ⟨#[40]⟩ J
        have z3 := ba_size (⟨#[40]⟩ ++ J) ⟨#[41]⟩
        clear hr hJ
        go_wp2_with (first
          | (go_at_call 132; refine (formatList_any (by omega) HI.out (by decide) (hv.toExt (by refine x'z ?_; repeat (with_reducible (first | exact x'a _ _ | exact x'b _ | exact x'c (by assumption) | refine x'd ?_ (by assumption) | refine x'e ?_ _ | refine x'f ?_ _ | refine x'g ?_ | refine x'h ?_ ?_ _ | refine x'i ?_ _ | refine x'j ?_ | refine x'k ?_ _ | refine x'l ?_ _ _ | refine x'm ?_ | assumption | (refine x'n ?_; omega) | omega))))).mono ?_; rintro e w2 ⟨rfl, hx2⟩; rw [HJ.out])
          | (at_builtin; refine wpList_app1 (E := sS) (d := rowTx r) rfl _ _ _ rfl tS rfl rfl rfl (by simp) (fun _ => ⟨by rw [HT2.out], rfl⟩) rfl (by simp [Value.oneCell']) (hS.toExt (by refine x'z ?_; repeat (with_reducible (first | exact x'a _ _ | exact x'b _ | exact x'c (by assumption) | refine x'd ?_ (by assumption) | refine x'e ?_ _ | refine x'f ?_ _ | refine x'g ?_ | refine x'h ?_ ?_ _ | refine x'i ?_ _ | refine x'j ?_ | refine x'k ?_ _ | refine x'l ?_ _ _ | refine x'm ?_ | assumption | (refine x'n ?_; omega) | omega)))) hlk (by omega) ?_; intro v' w' F' hS' hC' hF'))
        exact ⟨⟨k + 1, F', by go_num, by omega, by rw [← HS.out]; exact hS', newer HF.out (size_of_ext (by refine x'z ?_; repeat (with_reducible (first | exact x'a _ _ | exact x'b _ | exact x'c (by assumption) | refine x'd ?_ (by assumption) | refine x'e ?_ _ | refine x'f ?_ _ | refine x'g ?_ | refine x'h ?_ ?_ _ | refine x'i ?_ _ | refine x'j ?_ | refine x'k ?_ _ | refine x'l ?_ _ _ | refine x'm ?_ | assumption | (refine x'n ?_; omega) | omega)))) hF', hC'.isExt (by refine x'z ?_; repeat (with_reducible (first | exact x'a _ _ | exact x'b _ | exact x'c (by assumption) | refine x'd ?_ (by assumption) | refine x'e ?_ _ | refine x'f ?_ _ | refine x'g ?_ | refine x'h ?_ ?_ _ | refine x'i ?_ _ | refine x'j ?_ | refine x'k ?_ _ | refine x'l ?_ _ _ | refine x'm ?_ | assumption | (refine x'n ?_; omega) | omega))) HF.out⟩, by simp [intOf]; omega⟩
      · rw [List.take_of_length_le (by omega)] at hS
        obtain ⟨A2, c2, rfl, _, _, hV⟩ := hS.view sS_v
        obtain ⟨l2, p2, p2', f2⟩ := bx2 (P1.toExt hy)
        have HJ := Lib.hid (show ∀ j (h : j < (rows.map rowTx).length), (rows.map rowTx)[j].size ≤ 1000000000 by
          intro j h
          have h' : j < rows.length := by simpa using h
          have := rowTx_sz (HS5.out _ (List.getElem_mem h')) (HV5.out _ (List.getElem_mem h'))
          simp
          omega)
        rw [List.length_map] at *
        obtain ⟨J, hJ⟩ : ∃ J, joinF ⟨#[32]⟩ 0 ⟨#[]⟩ (rows.map rowTx) = J := ⟨_, rfl⟩
        have HJJ := Lib.hid hJ
        have hJs : J.size ≤ 432000 := by
          rw [← hJ]
          have := joinF_sz (c := 32) 107 (rows.map rowTx) 0 ⟨#[]⟩ (fun p hp => by obtain ⟨x, hx, rfl⟩ := List.mem_map.1 hp; exact rowTx_sz (HS5.out x hx) (HV5.out x hx))
          rw [List.length_map, show (ByteArray.mk #[]).size = 0 from rfl] at this
          omega
        have z1 := decI_size a0 a1
        have z5 : (ByteArray.mk #[58]).size = 1 := rfl
        have z2 := ba_size (decI a) ⟨#[58]⟩
        have z3 := ba_size (decI a ++ ⟨#[58]⟩) J
        clear hJ
        go_wp2_with (first
          | (go_at_call 133; refine (FormatInt_any a0 a1).mono ?_; rintro e w2 ⟨rfl, hx2⟩)
          | (go_at_call 134; refine (join_n (ps := rows.map rowTx) (by simp) (by omega) (hV.toExt (by refine x'z ?_; repeat (with_reducible (first | exact x'a _ _ | exact x'b _ | exact x'c (by assumption) | refine x'd ?_ (by assumption) | refine x'e ?_ _ | refine x'f ?_ _ | refine x'g ?_ | refine x'h ?_ ?_ _ | refine x'i ?_ _ | refine x'j ?_ | refine x'k ?_ _ | refine x'l ?_ _ _ | refine x'm ?_ | assumption | (refine x'n ?_; omega) | omega)))) (by decide) HJ.out).mono ?_; rintro e w3 ⟨rfl, hx3⟩; rw [HJJ.out]))
        go_ret
        exact ⟨by rw [HE.out, HJJ.out]; rfl, (by refine x'z ?_; repeat (with_reducible (first | exact x'a _ _ | exact x'b _ | exact x'c (by assumption) | refine x'd ?_ (by assumption) | refine x'e ?_ _ | refine x'f ?_ _ | refine x'g ?_ | refine x'h ?_ ?_ _ | refine x'i ?_ _ | refine x'j ?_ | refine x'k ?_ _ | refine x'l ?_ _ _ | refine x'm ?_ | assumption | (refine x'n ?_; omega) | omega)))⟩
set_option maxHeartbeats 1000000 in
theorem l5RowText_any {A : Option Addr} {c : Nat} {r : List Int} {w : World} (hr : r.length ≤ 5) (hv : ∀ v ∈ r, 0 ≤ v ∧ v ≤ 99) (h1 : RI w A r) :
    Calls Try.prog 170 #[.slice A r.length c] w fun e w' => e = .returned (.string (rowTx r)) ∧ ∃ y, w' = ext w y := by
  have HX := Lib.hid hv
  have HE := Lib.hid (show joinF ⟨#[44]⟩ 0 ⟨#[40]⟩ (r.map decI) ++ ⟨#[41]⟩ = rowTx r by rw [joinF_ac]; rfl)
  clear hv
  go_enter Try.func170, Try.ntmps170
  go_wp2
  go_loopw [3, 4] (fun v i wr => ∃ (k : Nat) (acc : ByteArray), i = .int .i64 k ∧ v = .string acc ∧ k ≤ r.length ∧ acc.size ≤ 10 + 30 * k ∧ Hid (joinF ⟨#[44]⟩ k acc ((r.drop k).map decI) = joinF ⟨#[44]⟩ 0 ⟨#[40]⟩ (r.map decI)) ∧ ∃ y, wr = ext w y) (fun _ i _ => r.length - (intOf i).toNat)
  case atStart => exact ⟨0, _, rfl, rfl, by omega, by decide, Lib.hid (by simp), refl_ext w⟩
  case round =>
    obtain ⟨k, acc, rfl, rfl, hk, ha, Hj, hy⟩ := hrel
    by_cases hlt : k < r.length
    · obtain ⟨b, o, rfl, hb, hc⟩ := (h1.toExt hy).atI hlt
      obtain ⟨x1, x2⟩ := HX.out _ (List.getElem_mem hlt)
      have e := Hj.out
      rw [List.drop_eq_getElem_cons hlt, List.map_cons, joinF] at e
      obtain ⟨n, hn⟩ : ∃ n, r[k] = n := ⟨_, rfl⟩
      rw [hn] at hc x1 x2 e
      have y5 : (ByteArray.mk #[44]).size = 1 := rfl
      have y1 := decI_size (z := n) (by omega) (by omega)
      clear hn
      by_cases h0 : 0 < k
      · rw [if_pos h0] at e
        have y2 := ba_size acc ⟨#[44]⟩
        have y3 := ba_size (acc ++ ⟨#[44]⟩) (decI n)
        have He := Lib.hid e
        clear e
        go_wp2_with (go_at_call 169; refine (specFormatInt_any (by omega) (by omega)).mono ?_; rintro e w2 ⟨rfl, hx2⟩)
        exact ⟨⟨k + 1, acc ++ ⟨#[44]⟩ ++ decI n, by go_num, rfl, by omega, by omega, He, (by refine x'z ?_; repeat (with_reducible (first | exact x'a _ _ | exact x'b _ | exact x'c (by assumption) | refine x'd ?_ (by assumption) | refine x'e ?_ _ | refine x'f ?_ _ | refine x'g ?_ | refine x'h ?_ ?_ _ | refine x'i ?_ _ | refine x'j ?_ | refine x'k ?_ _ | refine x'l ?_ _ _ | refine x'm ?_ | assumption | (refine x'n ?_; omega) | omega)))⟩, by simp [intOf]; omega⟩
      · rw [if_neg h0] at e
        have y3 := ba_size acc (decI n)
        have He := Lib.hid e
        clear e
        go_wp2_with (go_at_call 169; refine (specFormatInt_any (by omega) (by omega)).mono ?_; rintro e w2 ⟨rfl, hx2⟩)
        exact ⟨⟨k + 1, acc ++ decI n, by go_num, rfl, by omega, by omega, He, (by refine x'z ?_; repeat (with_reducible (first | exact x'a _ _ | exact x'b _ | exact x'c (by assumption) | refine x'd ?_ (by assumption) | refine x'e ?_ _ | refine x'f ?_ _ | refine x'g ?_ | refine x'h ?_ ?_ _ | refine x'i ?_ _ | refine x'j ?_ | refine x'k ?_ _ | refine x'l ?_ _ _ | refine x'm ?_ | assumption | (refine x'n ?_; omega) | omega)))⟩, by simp [intOf]; omega⟩
    · have e := Hj.out
      rw [List.drop_eq_nil_of_le (by omega), List.map_nil, joinF] at e
      have He := Lib.hid (show acc ++ ⟨#[41]⟩ = rowTx r by rw [e, HE.out])
      have y5 : (ByteArray.mk #[41]).size = 1 := rfl
      clear e
      go_wp2
      go_ret
      exact ⟨by rw [← He.out]; rfl, (by refine x'z ?_; repeat (with_reducible (first | exact x'a _ _ | exact x'b _ | exact x'c (by assumption) | refine x'd ?_ (by assumption) | refine x'e ?_ _ | refine x'f ?_ _ | refine x'g ?_ | refine x'h ?_ ?_ _ | refine x'i ?_ _ | refine x'j ?_ | refine x'k ?_ _ | refine x'l ?_ _ _ | refine x'm ?_ | assumption | (refine x'n ?_; omega) | omega)))⟩
set_option maxRecDepth 100000 in
set_option maxHeartbeats 4000000 in
theorem specFormatRelation_w {a : Int} {A : Option Addr} {c : Nat} {rows : List (List Int)} {w : World} (hx : rows.length ≤ 1000000000) (hxl : ∀ x ∈ rows, x.length ≤ 1000000000) (h1 : RII w A rows) :
    Calls Try.prog 86 #[.agg #[.int .i64 a, .slice A rows.length c]] w fun e w' => e = .returned (.string (fmtR (a, rows))) ∧ ∃ y, w' = ext w y := by
  have HXL := Lib.hid hxl
  obtain ⟨t, ht⟩ : ∃ t, rowsB a rows = t := ⟨_, rfl⟩
  have HT := Lib.hid ht
  clear hxl
  cases t with
  | false =>
    have HE := Lib.hid (show fmtR (a, rows) = ⟨#[]⟩ by unfold fmtR; rw [ht]; rfl)
    clear ht
    go_enter Try.func86, Try.ntmps86
    go_wp2_with (go_at_call 57; refine (specIsValidRelation_w hx HXL.out (h1.toExt (by refine x'z ?_; repeat (with_reducible (first | exact x'a _ _ | exact x'b _ | exact x'c (by assumption) | refine x'd ?_ (by assumption) | refine x'e ?_ _ | refine x'f ?_ _ | refine x'g ?_ | refine x'h ?_ ?_ _ | refine x'i ?_ _ | refine x'j ?_ | refine x'k ?_ _ | refine x'l ?_ _ _ | refine x'm ?_ | assumption | (refine x'n ?_; omega) | omega))))).mono ?_; rintro e w1 ⟨rfl, hx1⟩; rw [HT.out])
    go_ret
    exact ⟨by rw [HE.out]; rfl, (by refine x'z ?_; repeat (with_reducible (first | exact x'a _ _ | exact x'b _ | exact x'c (by assumption) | refine x'd ?_ (by assumption) | refine x'e ?_ _ | refine x'f ?_ _ | refine x'g ?_ | refine x'h ?_ ?_ _ | refine x'i ?_ _ | refine x'j ?_ | refine x'k ?_ _ | refine x'l ?_ _ _ | refine x'm ?_ | assumption | (refine x'n ?_; omega) | omega)))⟩
  | true =>
    have HE := Lib.hid (show joinF ⟨#[32]⟩ 0 (decI a ++ ⟨#[58]⟩) (rows.map rowTx) = fmtR (a, rows) by unfold fmtR; rw [if_pos ht, joinF_ac]; rfl)
    have hsz := rowsB_sz (d := (a, rows)) ht
    have HS5 := Lib.hid hsz.rl
    have HV5 := Lib.hid hsz.rv
    have hn := hsz.n
    obtain ⟨a0, a1⟩ := hsz.a
    dsimp only at hn a0 a1
    have z1 := decI_size a0 a1
    have z5 : (ByteArray.mk #[58]).size = 1 := rfl
    have z2 := ba_size (decI a) ⟨#[58]⟩
    clear ht hsz
    go_enter Try.func86, Try.ntmps86
    go_upto_region 3 with (go_at_call 57; refine (specIsValidRelation_w hx HXL.out (h1.toExt (by refine x'z ?_; repeat (with_reducible (first | exact x'a _ _ | exact x'b _ | exact x'c (by assumption) | refine x'd ?_ (by assumption) | refine x'e ?_ _ | refine x'f ?_ _ | refine x'g ?_ | refine x'h ?_ ?_ _ | refine x'i ?_ _ | refine x'j ?_ | refine x'k ?_ _ | refine x'l ?_ _ _ | refine x'm ?_ | assumption | (refine x'n ?_; omega) | omega))))).mono ?_; rintro e w1 ⟨rfl, hx1⟩; rw [HT.out]; have P1 := (BoxAt.new w #[.int .i64 a, .slice A rows.length c] 39).toExt hx1; obtain ⟨l1, p1, p1', f1⟩ := bx2 P1)
    have hxw : ∃ y, w1 = ext w y := (by refine x'z ?_; repeat (with_reducible (first | exact x'a _ _ | exact x'b _ | exact x'c (by assumption) | refine x'd ?_ (by assumption) | refine x'e ?_ _ | refine x'f ?_ _ | refine x'g ?_ | refine x'h ?_ ?_ _ | refine x'i ?_ _ | refine x'j ?_ | refine x'k ?_ _ | refine x'l ?_ _ _ | refine x'm ?_ | assumption | (refine x'n ?_; omega) | omega)))
    go_wp2_with (go_at_call 169; refine (specFormatInt_any a0 a1).mono ?_; rintro e w2 ⟨rfl, hx2⟩)
    clear l1 p1 p1' f1
    go_loopw [3, 4] (fun v i wr => ∃ (k : Nat) (acc : ByteArray), i = .int .i64 k ∧ v = .string acc ∧ k ≤ rows.length ∧ acc.size ≤ 30 + 120 * k ∧ Hid (joinF ⟨#[32]⟩ k acc ((rows.drop k).map rowTx) = joinF ⟨#[32]⟩ 0 (decI a ++ ⟨#[58]⟩) (rows.map rowTx)) ∧ ∃ y, wr = ext w1 y) (fun _ i _ => rows.length - (intOf i).toNat)
    case atStart => exact ⟨0, _, rfl, rfl, by omega, by omega, Lib.hid (by simp), (by refine x'z ?_; repeat (with_reducible (first | exact x'a _ _ | exact x'b _ | exact x'c (by assumption) | refine x'd ?_ (by assumption) | refine x'e ?_ _ | refine x'f ?_ _ | refine x'g ?_ | refine x'h ?_ ?_ _ | refine x'i ?_ _ | refine x'j ?_ | refine x'k ?_ _ | refine x'l ?_ _ _ | refine x'm ?_ | assumption | (refine x'n ?_; omega) | omega)))⟩
    case round =>
      obtain ⟨k, acc, rfl, rfl, hk, ha, Hj, hy⟩ := hrel
      obtain ⟨l3, p3, p3', f3⟩ := bx2 (P1.toExt hy)
      by_cases hlt : k < rows.length
      · obtain ⟨b, o, A', c', rfl, hb, hc, hv⟩ := (h1.toExt (trans_ext hxw hy)).atV hlt
        have hr5 := HS5.out _ (List.getElem_mem hlt)
        have HRV := Lib.hid (HV5.out _ (List.getElem_mem hlt))
        have e := Hj.out
        rw [List.drop_eq_getElem_cons hlt, List.map_cons, joinF] at e
        obtain ⟨r, hr⟩ : ∃ r, rows[k] = r := ⟨_, rfl⟩
        rw [hr] at hc hv hr5 HRV e
        have y1 := rowTx_sz hr5 HRV.out
        have y5 : (ByteArray.mk #[32]).size = 1 := rfl
        clear hr
        by_cases h0 : 0 < k
        · rw [if_pos h0] at e
          have y2 := ba_size acc ⟨#[32]⟩
          have y3 := ba_size (acc ++ ⟨#[32]⟩) (rowTx r)
          have He := Lib.hid e
          clear e
          go_wp2_with (go_at_call 170; refine (l5RowText_any hr5 HRV.out (hv.toExt (by refine x'z ?_; repeat (with_reducible (first | exact x'a _ _ | exact x'b _ | exact x'c (by assumption) | refine x'd ?_ (by assumption) | refine x'e ?_ _ | refine x'f ?_ _ | refine x'g ?_ | refine x'h ?_ ?_ _ | refine x'i ?_ _ | refine x'j ?_ | refine x'k ?_ _ | refine x'l ?_ _ _ | refine x'm ?_ | assumption | (refine x'n ?_; omega) | omega))))).mono ?_; rintro e w3 ⟨rfl, hx3⟩)
          exact ⟨⟨k + 1, acc ++ ⟨#[32]⟩ ++ rowTx r, by go_num, rfl, by omega, by omega, He, (by refine x'z ?_; repeat (with_reducible (first | exact x'a _ _ | exact x'b _ | exact x'c (by assumption) | refine x'd ?_ (by assumption) | refine x'e ?_ _ | refine x'f ?_ _ | refine x'g ?_ | refine x'h ?_ ?_ _ | refine x'i ?_ _ | refine x'j ?_ | refine x'k ?_ _ | refine x'l ?_ _ _ | refine x'm ?_ | assumption | (refine x'n ?_; omega) | omega)))⟩, by simp [intOf]; omega⟩
        · rw [if_neg h0] at e
          have y3 := ba_size acc (rowTx r)
          have He := Lib.hid e
          clear e
          go_wp2_with (go_at_call 170; refine (l5RowText_any hr5 HRV.out (hv.toExt (by refine x'z ?_; repeat (with_reducible (first | exact x'a _ _ | exact x'b _ | exact x'c (by assumption) | refine x'd ?_ (by assumption) | refine x'e ?_ _ | refine x'f ?_ _ | refine x'g ?_ | refine x'h ?_ ?_ _ | refine x'i ?_ _ | refine x'j ?_ | refine x'k ?_ _ | refine x'l ?_ _ _ | refine x'm ?_ | assumption | (refine x'n ?_; omega) | omega))))).mono ?_; rintro e w3 ⟨rfl, hx3⟩)
          exact ⟨⟨k + 1, acc ++ rowTx r, by go_num, rfl, by omega, by omega, He, (by refine x'z ?_; repeat (with_reducible (first | exact x'a _ _ | exact x'b _ | exact x'c (by assumption) | refine x'd ?_ (by assumption) | refine x'e ?_ _ | refine x'f ?_ _ | refine x'g ?_ | refine x'h ?_ ?_ _ | refine x'i ?_ _ | refine x'j ?_ | refine x'k ?_ _ | refine x'l ?_ _ _ | refine x'm ?_ | assumption | (refine x'n ?_; omega) | omega)))⟩, by simp [intOf]; omega⟩
      · have e := Hj.out
        rw [List.drop_eq_nil_of_le (by omega), List.map_nil, joinF] at e
        have He := Lib.hid (show acc = fmtR (a, rows) by rw [e, HE.out])
        clear e
        go_wp2
        go_ret
        exact ⟨by rw [← He.out]; rfl, (by refine x'z ?_; repeat (with_reducible (first | exact x'a _ _ | exact x'b _ | exact x'c (by assumption) | refine x'd ?_ (by assumption) | refine x'e ?_ _ | refine x'f ?_ _ | refine x'g ?_ | refine x'h ?_ ?_ _ | refine x'i ?_ _ | refine x'j ?_ | refine x'k ?_ _ | refine x'l ?_ _ _ | refine x'm ?_ | assumption | (refine x'n ?_; omega) | omega)))⟩
end Go.Proofs.Ytfigcfajkilhiaa

/- Databases written as text: the program's way and the reference's. -/
namespace Go.Proofs.Ytfigcfajkilhiaa
open Go.RowKit
theorem quietEs {P : Program} {f : FuncId} {args : Array Value} {w y : World} {c s : ByteArray}
    (h : Calls P f args (ext w y) fun e w' => e = .returned (.string c) ∧ ∃ z, w' = ext (ext w y) z) (hc : c = s) :
    Calls P f args (ext w y) fun e w' => e = .returned (.string s) ∧ ∃ z, w' = ext w z := by
  subst hc
  exact quietE h
set_option maxRecDepth 100000 in
set_option maxHeartbeats 4000000 in
theorem FormatDatabase_any {A : Option Addr} {c : Nat} {d : Dbd} {w : World} (hd : WDb d) (h1 : RV 3 vTb w A d) :
    Calls Try.prog 18 #[.agg #[.slice A d.length c]] w fun e w' => e = .returned (.string (fmtD d)) ∧ ∃ y, w' = ext w y := by
  have HD := Lib.hid hd
  have hn := hd.n
  obtain ⟨t, ht⟩ : ∃ t, dbB d = t := ⟨_, rfl⟩
  have HT := Lib.hid ht
  clear hd
  cases t with
  | false =>
    have HE := Lib.hid (show fmtD d = ⟨#[]⟩ by unfold fmtD; rw [ht]; rfl)
    clear ht
    go_enter Try.func18, Try.ntmps18
    go_wp2_with (go_at_call 63; refine (IsValidDatabase_w HD.out (h1.toExt (by refine x'z ?_; repeat (with_reducible (first | exact x'a _ _ | exact x'b _ | exact x'c (by assumption) | refine x'd ?_ (by assumption) | refine x'e ?_ _ | refine x'f ?_ _ | refine x'g ?_ | refine x'h ?_ ?_ _ | refine x'i ?_ _ | refine x'j ?_ | refine x'k ?_ _ | refine x'l ?_ _ _ | refine x'm ?_ | assumption | (refine x'n ?_; omega) | omega))))).mono ?_; rintro e w1 ⟨rfl, hx1⟩; rw [HT.out])
    go_ret
    exact ⟨by rw [HE.out]; rfl, (by refine x'z ?_; repeat (with_reducible (first | exact x'a _ _ | exact x'b _ | exact x'c (by assumption) | refine x'd ?_ (by assumption) | refine x'e ?_ _ | refine x'f ?_ _ | refine x'g ?_ | refine x'h ?_ ?_ _ | refine x'i ?_ _ | refine x'j ?_ | refine x'k ?_ _ | refine x'l ?_ _ _ | refine x'm ?_ | assumption | (refine x'n ?_; omega) | omega)))⟩
  | true =>
    have HE := Lib.hid (show fmtD d = fdG ⟨#[]⟩ d by unfold fmtD; rw [if_pos ht])
    have HK := Lib.hid (dbB_iff.1 ht).2.1
    have hn6 := (dbB_iff.1 ht).1
    clear ht
    go_enter Try.func18, Try.ntmps18
    go_upto_region 2 with (go_at_call 63; refine (IsValidDatabase_w HD.out (h1.toExt (by refine x'z ?_; repeat (with_reducible (first | exact x'a _ _ | exact x'b _ | exact x'c (by assumption) | refine x'd ?_ (by assumption) | refine x'e ?_ _ | refine x'f ?_ _ | refine x'g ?_ | refine x'h ?_ ?_ _ | refine x'i ?_ _ | refine x'j ?_ | refine x'k ?_ _ | refine x'l ?_ _ _ | refine x'm ?_ | assumption | (refine x'n ?_; omega) | omega))))).mono ?_; rintro e w1 ⟨rfl, hx1⟩; rw [HT.out]; have P1 := (BoxAt.new w #[.slice A d.length c] 29).toExt hx1; obtain ⟨l1, p1, f1⟩ := bx1 P1)
    have hxw : ∃ y, w1 = ext w y := (by refine x'z ?_; repeat (with_reducible (first | exact x'a _ _ | exact x'b _ | exact x'c (by assumption) | refine x'd ?_ (by assumption) | refine x'e ?_ _ | refine x'f ?_ _ | refine x'g ?_ | refine x'h ?_ ?_ _ | refine x'i ?_ _ | refine x'j ?_ | refine x'k ?_ _ | refine x'l ?_ _ _ | refine x'm ?_ | assumption | (refine x'n ?_; omega) | omega)))
    go_wp2
    clear l1 p1 f1
    go_loopw [3, 12] (fun v i wr => ∃ (k : Nat) (acc : ByteArray), i = .int .i64 k ∧ v = .string acc ∧ k ≤ d.length ∧ acc.size ≤ 2000 * k ∧ Hid (fdG acc (d.drop k) = fdG ⟨#[]⟩ d) ∧ ∃ y, wr = ext w1 y) (fun _ i _ => d.length - (intOf i).toNat)
    case atStart => exact ⟨0, _, rfl, rfl, by omega, by decide, Lib.hid (by simp), refl_ext _⟩
    case round =>
      obtain ⟨k, acc, rfl, rfl, hk, ha, Hj, hy⟩ := hrel
      have hw := trans_ext hxw hy
      by_cases hlt : k < d.length
      · obtain ⟨b, o, A1, c1, rfl, hb, hc, hc1, hc2, hvx⟩ := (h1.toExt hw).atT hlt
        have lx2 := HD.out.rn _ (List.getElem_mem hlt)
        have HXL := Lib.hid (HD.out.rl _ (List.getElem_mem hlt))
        have HLT := Lib.hid (lineT_sz (HK.out _ (List.getElem_mem hlt)))
        have e := Hj.out
        rw [fdG_step hlt] at e
        have hv := (vII_get (vRel_get hvx).2).2
        have hsz := HLT.out
        obtain ⟨x, hx⟩ : ∃ x, d[k] = x := ⟨_, rfl⟩
        rw [hx] at e hc hc1 hc2 lx2 HXL hv hsz
        obtain ⟨f, hf⟩ : ∃ f, fmtR x.2 = f := ⟨_, rfl⟩
        have HFM := Lib.hid (show fmtR (x.2.1, x.2.2) = f from hf)
        have hsz2 : (x.1 ++ ⟨#[61]⟩ ++ f).size ≤ 1754 := by rw [← hf]; exact hsz
        rw [ba_size, ba_size, show (ByteArray.mk #[61]).size = 1 from rfl] at hsz2
        have q61 : (ByteArray.mk #[61]).size = 1 := rfl
        have q10 : (ByteArray.mk #[10]).size = 1 := rfl
        unfold lineT at e
        rw [hf] at e
        clear hx hf hvx HLT hsz
        have HJ2 := Lib.hid e
        clear e
        go_upto_region 7 with fail
        refine wp_name ?_
        intro W2 hW2
        have xW2 : ∃ y, W2 = ext wr y := by rw [hW2.out]; exact (by refine x'z ?_; repeat (with_reducible (first | exact x'a _ _ | exact x'b _ | exact x'c (by assumption) | refine x'd ?_ (by assumption) | refine x'e ?_ _ | refine x'f ?_ _ | refine x'g ?_ | refine x'h ?_ ?_ _ | refine x'i ?_ _ | refine x'j ?_ | refine x'k ?_ _ | refine x'l ?_ _ _ | refine x'm ?_ | assumption | (refine x'n ?_; omega) | omega)))
        have T2 : BoxAt W2 wr.heap.size #[.string x.1, .int .i64 x.2.1, .slice A1 x.2.2.length c1] := by rw [hW2.out]; exact (by repeat (with_reducible (first | assumption | exact BoxAt.new _ _ _ | apply BoxAt.set3 | refine BoxAt.set3' ?_ (by omega) | apply BoxAt.set30 | apply BoxAt.set31 | apply BoxAt.set32 | apply BoxAt.set2 | refine BoxAt.set2' ?_ (by omega) | apply BoxAt.setP0 | apply BoxAt.setP1 | refine BoxAt.setO ?_ (by omega) | refine BoxAt.alloc ?_ _ | refine BoxAt.drew ?_ | refine BoxAt.toExt ?_ (by assumption))))
        have hv2 := hv.toExt xW2
        have hy2 := trans_ext hy xW2
        obtain ⟨l2, a2, a3, a4, f2⟩ := box3 T2
        clear hW2 hc hc1 hc2 T2
        have z1 := ba_size x.1 ⟨#[61]⟩
        have z2 := ba_size (x.1 ++ ⟨#[61]⟩) f
        have z3 := ba_size (x.1 ++ ⟨#[61]⟩ ++ f) ⟨#[10]⟩
        have z4 := ba_size acc (x.1 ++ ⟨#[61]⟩ ++ f ++ ⟨#[10]⟩)
        refine wp_region_ext (by kernel_rfl) (by kernel_rfl) ?_
        repeat (go_big_quiet_step ((go_at_call 54; exact quietEs (FormatRelation_w lx2 HXL.out hv2.ext) HFM.out)))
        refine wpQuiet_nil ?_
        rintro _ ⟨zz, rfl⟩
        go_wp2
        exact ⟨⟨k + 1, acc ++ (x.1 ++ ⟨#[61]⟩ ++ f ++ ⟨#[10]⟩), by go_num, rfl, by omega, by omega, HJ2, (by refine x'z ?_; repeat (with_reducible (first | exact x'a _ _ | exact x'b _ | exact x'c (by assumption) | refine x'd ?_ (by assumption) | refine x'e ?_ _ | refine x'f ?_ _ | refine x'g ?_ | refine x'h ?_ ?_ _ | refine x'i ?_ _ | refine x'j ?_ | refine x'k ?_ _ | refine x'l ?_ _ _ | refine x'm ?_ | assumption | (refine x'n ?_; omega) | omega)))⟩, by simp [intOf]; omega⟩
      · have e := Hj.out
        rw [fdG_end hlt] at e
        have He := Lib.hid (show acc = fmtD d by rw [e, HE.out])
        clear e
        go_wp2
        go_ret
        exact ⟨by rw [← He.out]; rfl, (by refine x'z ?_; repeat (with_reducible (first | exact x'a _ _ | exact x'b _ | exact x'c (by assumption) | refine x'd ?_ (by assumption) | refine x'e ?_ _ | refine x'f ?_ _ | refine x'g ?_ | refine x'h ?_ ?_ _ | refine x'i ?_ _ | refine x'j ?_ | refine x'k ?_ _ | refine x'l ?_ _ _ | refine x'm ?_ | assumption | (refine x'n ?_; omega) | omega)))⟩
set_option maxRecDepth 100000 in
set_option maxHeartbeats 4000000 in
theorem specFormatDatabase_any {A : Option Addr} {c : Nat} {d : Dbd} {w : World} (hd : WDb d) (h1 : RV 3 vTb w A d) :
    Calls Try.prog 16 #[.agg #[.slice A d.length c]] w fun e w' => e = .returned (.string (fmtD d)) ∧ ∃ y, w' = ext w y := by
  have HD := Lib.hid hd
  have hn := hd.n
  obtain ⟨t, ht⟩ : ∃ t, dbB d = t := ⟨_, rfl⟩
  have HT := Lib.hid ht
  have HN0 := Lib.hid (show ¬ 0 < d.length → fmtD d = ⟨#[]⟩ from fun h0 => by
    have : d = [] := List.eq_nil_of_length_eq_zero (by omega)
    subst this
    rfl)
  clear hd
  go_enter Try.func16, Try.ntmps16
  go_upto_region 1 with fail
  refine wp_name ?_
  intro W hW
  have xW : ∃ y, W = ext w y := by rw [hW.out]; exact (by refine x'z ?_; repeat (with_reducible (first | exact x'a _ _ | exact x'b _ | exact x'c (by assumption) | refine x'd ?_ (by assumption) | refine x'e ?_ _ | refine x'f ?_ _ | refine x'g ?_ | refine x'h ?_ ?_ _ | refine x'i ?_ _ | refine x'j ?_ | refine x'k ?_ _ | refine x'l ?_ _ _ | refine x'm ?_ | assumption | (refine x'n ?_; omega) | omega)))
  have PW : BoxAt W w.heap.size #[.slice A d.length c] := by rw [hW.out]; exact (by repeat (with_reducible (first | assumption | exact BoxAt.new _ _ _ | apply BoxAt.set10 | apply BoxAt.set2 | refine BoxAt.set2' ?_ (by omega) | apply BoxAt.setP0 | apply BoxAt.setP1 | refine BoxAt.setO ?_ (by omega) | refine BoxAt.alloc ?_ _ | refine BoxAt.drew ?_ | refine BoxAt.toExt ?_ (by assumption))))
  clear hW
  go_wp2
  cases t with
  | false =>
    have HE := Lib.hid (show fmtD d = ⟨#[]⟩ by unfold fmtD; rw [ht]; rfl)
    clear ht
    go_loopw [3, 4] (fun v i wr => i = .int .i64 0 ∧ v = .string ⟨#[]⟩ ∧ ∃ y, wr = ext W y) (fun _ _ _ => 0)
    case atStart => exact ⟨rfl, rfl, refl_ext _⟩
    case round =>
      obtain ⟨rfl, rfl, hy⟩ := hrel
      have hw := trans_ext xW hy
      obtain ⟨lp, p0, fp⟩ := bx1 (PW.toExt hy)
      by_cases h0 : 0 < d.length
      · go_wp2_with (go_at_call 60; refine (specIsValidDatabase_w HD.out (h1.toExt hw)).mono ?_; rintro e w1 ⟨rfl, hx1⟩; rw [HT.out])
        go_ret
        exact ⟨by rw [HE.out]; rfl, (by refine x'z ?_; repeat (with_reducible (first | exact x'a _ _ | exact x'b _ | exact x'c (by assumption) | refine x'd ?_ (by assumption) | refine x'e ?_ _ | refine x'f ?_ _ | refine x'g ?_ | refine x'h ?_ ?_ _ | refine x'i ?_ _ | refine x'j ?_ | refine x'k ?_ _ | refine x'l ?_ _ _ | refine x'm ?_ | assumption | (refine x'n ?_; omega) | omega)))⟩
      · go_wp2
        go_ret
        exact ⟨by rw [HE.out]; rfl, (by refine x'z ?_; repeat (with_reducible (first | exact x'a _ _ | exact x'b _ | exact x'c (by assumption) | refine x'd ?_ (by assumption) | refine x'e ?_ _ | refine x'f ?_ _ | refine x'g ?_ | refine x'h ?_ ?_ _ | refine x'i ?_ _ | refine x'j ?_ | refine x'k ?_ _ | refine x'l ?_ _ _ | refine x'm ?_ | assumption | (refine x'n ?_; omega) | omega)))⟩
  | true =>
    have HE := Lib.hid (show fmtD d = fdG ⟨#[]⟩ d by unfold fmtD; rw [if_pos ht])
    have HK := Lib.hid (dbB_iff.1 ht).2.1
    have hn6 := (dbB_iff.1 ht).1
    clear ht
    go_loopw [3, 4] (fun v i wr => ∃ (k : Nat) (acc : ByteArray), i = .int .i64 k ∧ v = .string acc ∧ k ≤ d.length ∧ acc.size ≤ 2000 * k ∧ Hid (fdG acc (d.drop k) = fdG ⟨#[]⟩ d) ∧ ∃ y, wr = ext W y) (fun _ i _ => d.length - (intOf i).toNat)
    case atStart => exact ⟨0, _, rfl, rfl, by omega, by decide, Lib.hid (by simp), refl_ext _⟩
    case round =>
      obtain ⟨k, acc, rfl, rfl, hk, ha, Hj, hy⟩ := hrel
      have hw := trans_ext xW hy
      obtain ⟨lp, p0, fp⟩ := bx1 (PW.toExt hy)
      by_cases hlt : k < d.length
      · go_upto_region 5 with (go_at_call 60; refine (specIsValidDatabase_w HD.out (h1.toExt hw)).mono ?_; rintro e w1 ⟨rfl, hx1⟩; rw [HT.out])
        have hy := trans_ext hy hx1
        have hw := trans_ext xW hy
        clear lp p0 fp
        obtain ⟨lp, p0, fp⟩ := bx1 (PW.toExt hy)
        obtain ⟨b, o, A1, c1, rfl, hb, hc, hc1, hc2, hvx⟩ := (h1.toExt hw).atT hlt
        have lx2 := HD.out.rn _ (List.getElem_mem hlt)
        have HXL := Lib.hid (HD.out.rl _ (List.getElem_mem hlt))
        have HLT := Lib.hid (lineT_sz (HK.out _ (List.getElem_mem hlt)))
        have e := Hj.out
        rw [fdG_step hlt] at e
        have hv := (vII_get (vRel_get hvx).2).2
        have hsz := HLT.out
        obtain ⟨x, hx⟩ : ∃ x, d[k] = x := ⟨_, rfl⟩
        rw [hx] at e hc hc1 hc2 lx2 HXL hv hsz
        obtain ⟨f, hf⟩ : ∃ f, fmtR x.2 = f := ⟨_, rfl⟩
        have HFM := Lib.hid (show fmtR (x.2.1, x.2.2) = f from hf)
        have hsz2 : (x.1 ++ ⟨#[61]⟩ ++ f).size ≤ 1754 := by rw [← hf]; exact hsz
        rw [ba_size, ba_size, show (ByteArray.mk #[61]).size = 1 from rfl] at hsz2
        have q61 : (ByteArray.mk #[61]).size = 1 := rfl
        have q10 : (ByteArray.mk #[10]).size = 1 := rfl
        unfold lineT at e
        rw [hf] at e
        clear hx hf hvx HLT hsz
        have z1 := ba_size acc x.1
        have z2 := ba_size (acc ++ x.1) ⟨#[61]⟩
        have z3 := ba_size (acc ++ x.1 ++ ⟨#[61]⟩) f
        have z4 := ba_size (acc ++ x.1 ++ ⟨#[61]⟩ ++ f) ⟨#[10]⟩
        have HJ2 := Lib.hid (show fdG (acc ++ x.1 ++ ⟨#[61]⟩ ++ f ++ ⟨#[10]⟩) (d.drop (k + 1)) = fdG ⟨#[]⟩ d by rw [← e]; simp only [ba3])
        clear e
        refine wp_region_ext (by kernel_rfl) (by kernel_rfl) ?_
        repeat (go_big_quiet_step ((go_at_call 86; exact quietEs (specFormatRelation_w lx2 HXL.out hv.ext) HFM.out)))
        refine wpQuiet_nil ?_
        rintro _ ⟨zz, rfl⟩
        go_wp2
        exact ⟨⟨k + 1, acc ++ x.1 ++ ⟨#[61]⟩ ++ f ++ ⟨#[10]⟩, by go_num, rfl, by omega, by omega, HJ2, (by refine x'z ?_; repeat (with_reducible (first | exact x'a _ _ | exact x'b _ | exact x'c (by assumption) | refine x'd ?_ (by assumption) | refine x'e ?_ _ | refine x'f ?_ _ | refine x'g ?_ | refine x'h ?_ ?_ _ | refine x'i ?_ _ | refine x'j ?_ | refine x'k ?_ _ | refine x'l ?_ _ _ | refine x'm ?_ | assumption | (refine x'n ?_; omega) | omega)))⟩, by simp [intOf]; omega⟩
      · have e := Hj.out
        rw [fdG_end hlt] at e
        have He := Lib.hid (show acc = fmtD d by rw [e, HE.out])
        clear e
        go_wp2
        go_ret
        exact ⟨by rw [← He.out]; rfl, (by refine x'z ?_; repeat (with_reducible (first | exact x'a _ _ | exact x'b _ | exact x'c (by assumption) | refine x'd ?_ (by assumption) | refine x'e ?_ _ | refine x'f ?_ _ | refine x'g ?_ | refine x'h ?_ ?_ _ | refine x'i ?_ _ | refine x'j ?_ | refine x'k ?_ _ | refine x'l ?_ _ _ | refine x'm ?_ | assumption | (refine x'n ?_; omega) | omega)))⟩
end Go.Proofs.Ytfigcfajkilhiaa

/- Queries compared; the program's way and the reference's. -/
namespace Go.Proofs.Ytfigcfajkilhiaa
open Go.RowKit

theorem int_bnef {a b : Nat} (h : ¬ a = b) : ((a : Int) != (b : Int)) = true := by simp; omega
theorem int_bnet {a b : Nat} (h : a = b) : ((a : Int) != (b : Int)) = false := by simp; omega
theorem quietEi {P : Program} {f : FuncId} {args : Array Value} {w y : World} {m n : Int}
    (h : Calls P f args (ext w y) fun e w' => e = .returned (.int .i64 m) ∧ ∃ z, w' = ext (ext w y) z) (hc : m = n) : Calls P f args (ext w y) fun e w' => e = .returned (.int .i64 n) ∧ ∃ z, w' = ext w z := by
  subst hc; exact quietE h
theorem same_t {xs ys : List Int} (h : xs = ys) : decide (xs = ys) = true := decide_eq_true h
theorem same_f {xs ys : List Int} (h : ¬ xs = ys) : decide (xs = ys) = false := decide_eq_false h
theorem cmp_t {xs ys : List Int} (h : xs = ys) : cmpL xs ys = 0 := cmpL_zero.2 h
end Go.Proofs.Ytfigcfajkilhiaa

/- The reference's draws of queries for the laws on their texts and trees; queries copied by the reference. -/
namespace Go.Proofs.Ytfigcfajkilhiaa
open Go.RowKit
def DfqP (w : World) (e : Ending) (w' : World) : Prop := ∃ A c B c' q, e = .returned (.agg #[.int .i64 q.1, .slice A q.2.1.length c, .slice B q.2.2.length c']) ∧ vQ w' [.int .i64 q.1, .slice A q.2.1.length c, .slice B q.2.2.length c'] q ∧ QaD q ∧ ∃ y, w' = ext w y
def DpqP (w : World) (e : Ending) (w' : World) : Prop := ∃ s : ByteArray, e = .returned (.string s) ∧ s.size ≤ 1000 ∧ ∃ y, w' = ext w y
theorem vname_le (v : Int) : (vname v).size ≤ 1 := vname_size v
theorem fmtQ_le {q : Qd} (h : vqB q = true) : (fmtQ q).size ≤ 200 := by
  obtain ⟨h1, h2, h3⟩ := vqB_facts h
  unfold fmtQ
  rw [if_pos h, ba_size, ba_size, ba_size]
  have e1 := names_size q.2.2
  have e2 := joinF_size 20 (q.2.1.map atomT) 0 ⟨#[]⟩ (fun p hp => by
    obtain ⟨x, hx, rfl⟩ := List.mem_map.1 hp
    exact atomT_size (h3 x hx).1 (h3 x hx).2)
  rw [List.length_map] at e2
  have e3 : (⟨#[40]⟩ : ByteArray).size = 1 := rfl
  have e4 : (⟨#[41, 61]⟩ : ByteArray).size = 2 := rfl
  have e5 : (⟨#[]⟩ : ByteArray).size = 0 := rfl
  omega
end Go.Proofs.Ytfigcfajkilhiaa

/- The reference's draws of texts of relations and databases. -/
namespace Go.Proofs.Ytfigcfajkilhiaa
open Go.RowKit
def DptP (w : World) (e : Ending) (w' : World) : Prop := ∃ s : ByteArray, e = .returned (.string s) ∧ s.size ≤ 1000000 ∧ ∃ y, w' = ext w y
theorem fdG_sz : ∀ (d : Dbd) (acc : ByteArray), (∀ t ∈ d, TOk t) → (fdG acc d).size ≤ acc.size + 1755 * d.length
  | [], acc, _ => by rw [fdG]; omega
  | t :: d, acc, h => by
    rw [fdG]
    have h1 := fdG_sz d (acc ++ (lineT t ++ ⟨#[10]⟩)) fun x hx => h x (by simp [hx])
    have h2 := lineT_sz (h t (by simp))
    rw [ba_size, ba_size] at h1
    have h3 : (⟨#[10]⟩ : ByteArray).size = 1 := rfl
    rw [List.length_cons]
    omega
theorem fmtD_sz (d : Dbd) : (fmtD d).size ≤ 20000 := by
  unfold fmtD
  split
  · rename_i h
    obtain ⟨h1, h2, _⟩ := dbB_iff.1 h
    have := fdG_sz d ⟨#[]⟩ h2
    have h3 : (⟨#[]⟩ : ByteArray).size = 0 := rfl
    omega
  · decide
set_option maxRecDepth 100000 in
set_option maxHeartbeats 8000000 in
theorem DrawParseRelation_any {A : Option Addr} {c : Nat} {bs : List UInt8} {w : World} (hx : bs.length ≤ 1048576) (h1 : RU w A bs) :
    Calls Try.prog 55 #[.slice A bs.length c] w (DptP w) := by
  go_enter Try.func55, Try.ntmps55
  go_wp2_with fail
  refine (l1New_any hx h1).mono ?_
  rintro e w1 ⟨g, rfl, hc1⟩
  go_wp2_with fail
  refine (l1Below_any hc1 (by omega) (by omega)).mono ?_
  rintro e w2 ⟨a, rfl, ha0, ha1, hc2, -⟩
  obtain ⟨k, rfl⟩ : ∃ k : Nat, a = k := ⟨a.toNat, by omega⟩
  go_wp2_with fail
  refine (l5Rel_any (a := k) (m := 5) hc2 (by omega) (by omega) (by omega) (by omega)).mono ?_
  rintro e w3 ⟨u0, u1, F, r, rfl, hS, -, -, hR, hc3, -⟩
  obtain ⟨A3, c3, rfl, rfl, hI⟩ := sRel_form hS
  have hv := (vII_get (sII_v _ _ _ hI)).2
  have hsz := rowsB_sz hR.ok
  have hrn : r.2.length ≤ 1000000000 := by have := hR.n; omega
  have hrl : ∀ x ∈ r.2, x.length ≤ 1000000000 := fun x hx => by have := hsz.rl x hx; omega
  go_wp2_with fail
  refine (specFormatRelation_w hrn hrl hv).mono ?_
  rintro e w9 ⟨rfl, hx9⟩
  have hs := fmtR_sz (r.1, r.2)
  obtain ⟨s, hs0⟩ : ∃ s, fmtR (r.1, r.2) = s := ⟨_, rfl⟩
  rw [hs0] at hs ⊢
  have hc9 := hc3.toExt hx9
  clear hc1 hc2 hc3 hS hI hv hsz hrn hrl hR hs0
  go_wp2_with fail
  refine (l1Below_any hc9 (by omega) (by omega)).mono ?_
  rintro e w4 ⟨x, rfl, hx0, hx1, hc4, hC4⟩
  by_cases e0 : x = 0
  · have q0 : (x == 0) = true := by simp [e0]
    clear e0
    go_wp2_with fail
    refine (l1Spoil_any hc4 (by omega)).mono ?_
    rintro e w5 ⟨t, rfl, ht, hc5, hC5⟩
    go_wp2
    go_ret
    show DptP w _ _
    exact ⟨t, rfl, by omega, hc5.2.1⟩
  · have q0 : (x == 0) = false := by simp [e0]
    by_cases e1 : x = 1
    · have q1 : (x == 1) = true := by simp [e1]
      have hg4 := hc4.lt
      clear e0 e1
      go_wp2_with fail
      refine (l1Pick_any (hc4.toExt (alloc_ext _ _)) (by omega) (by omega) (BoxAt.new _ _ _) (by intro j hj; rcases j with _ | _ | _ | _ | _ | _ | _ | _ | _ | _ | _ | _ | _ | j <;> first | exact ⟨_, rfl⟩ | omega) (by omega)).mono ?_
      rintro e w5 ⟨t, j, rfl, hj, ht, hc5, hC5⟩
      have hl : t.size ≤ 1000 := by
        rcases j with _ | _ | _ | _ | _ | _ | _ | _ | _ | _ | _ | _ | _ | j <;> first | omega | (simp at ht; subst ht; decide)
      clear ht
      go_wp2
      go_ret
      show DptP w _ _
      exact ⟨t, rfl, by omega, hc5.2.1⟩
    · have q1 : (x == 1) = false := by simp [e1]
      clear e0 e1
      go_wp2
      go_ret
      show DptP w _ _
      exact ⟨s, rfl, by omega, hc4.2.1⟩
set_option maxRecDepth 100000 in
set_option maxHeartbeats 8000000 in
theorem DrawParseDatabase_any {A : Option Addr} {c : Nat} {bs : List UInt8} {w : World} (hx : bs.length ≤ 1048576) (h1 : RU w A bs) :
    Calls Try.prog 59 #[.slice A bs.length c] w (DptP w) := by
  go_enter Try.func59, Try.ntmps59
  go_wp2_with fail
  refine (l1New_any hx h1).mono ?_
  rintro e w1 ⟨g, rfl, hc1⟩
  go_wp2_with fail
  refine (l6Db_any hc1).mono ?_
  rintro e w2 ⟨v, F, d, rfl, hS, -, -, -, hD, hc2, -⟩
  obtain ⟨A2, c2, rfl, hcap, hcm, hv⟩ := hS.view sTb_v
  have hs := fmtD_sz d
  go_wp2_with fail
  refine (specFormatDatabase_any hD.w hv).mono ?_
  rintro e w9 ⟨rfl, hx9⟩
  obtain ⟨s, hs0⟩ : ∃ s, fmtD d = s := ⟨_, rfl⟩
  rw [hs0] at hs ⊢
  have hc9 := hc2.toExt hx9
  clear hc1 hc2 hS hv hcap hcm hD hs0
  go_wp2_with fail
  refine (l1Below_any hc9 (by omega) (by omega)).mono ?_
  rintro e w4 ⟨x, rfl, hx0, hx1, hc4, hC4⟩
  by_cases e0 : x = 0
  · have q0 : (x == 0) = true := by simp [e0]
    clear e0
    go_wp2_with fail
    refine (l1Spoil_any hc4 (by omega)).mono ?_
    rintro e w5 ⟨t, rfl, ht, hc5, hC5⟩
    go_wp2
    go_ret
    show DptP w _ _
    exact ⟨t, rfl, by omega, hc5.2.1⟩
  · have q0 : (x == 0) = false := by simp [e0]
    by_cases e1 : x = 1
    · have q1 : (x == 1) = true := by simp [e1]
      have hg4 := hc4.lt
      clear e0 e1
      go_wp2_with fail
      refine (l1Pick_any (hc4.toExt (alloc_ext _ _)) (by omega) (by omega) (BoxAt.new _ _ _) (by intro j hj; rcases j with _ | _ | _ | _ | _ | _ | _ | j <;> first | exact ⟨_, rfl⟩ | omega) (by omega)).mono ?_
      rintro e w5 ⟨t, j, rfl, hj, ht, hc5, hC5⟩
      have hl : t.size ≤ 1000 := by
        rcases j with _ | _ | _ | _ | _ | _ | _ | j <;> first | omega | (simp at ht; subst ht; decide)
      clear ht
      go_wp2
      go_ret
      show DptP w _ _
      exact ⟨t, rfl, by omega, hc5.2.1⟩
    · have q1 : (x == 1) = false := by simp [e1]
      clear e0 e1
      go_wp2
      go_ret
      show DptP w _ _
      exact ⟨s, rfl, by omega, hc4.2.1⟩
end Go.Proofs.Ytfigcfajkilhiaa

/- Lists of numbers read from text: the program's way. -/
namespace Go.Proofs.Ytfigcfajkilhiaa
open Go.RowKit
theorem plG_some {acc : List Int} {ws : List ByteArray} {k : Nat} {n : Int} (h : k < ws.length) (e : pInt ws[k] = some n) : plG acc (ws.drop k) = plG (acc ++ [n]) (ws.drop (k + 1)) := by
  rw [List.drop_eq_getElem_cons h, plG, e]
theorem plG_none {acc : List Int} {ws : List ByteArray} {k : Nat} (h : k < ws.length) (e : pInt ws[k] = none) : plG acc (ws.drop k) = none := by
  rw [List.drop_eq_getElem_cons h, plG, e]
theorem plG_end {acc : List Int} {ws : List ByteArray} {k : Nat} (h : ¬ k < ws.length) : plG acc (ws.drop k) = some acc := by
  rw [List.drop_eq_nil_of_le (by omega), plG]
theorem plG_facts : ∀ {ws : List ByteArray} {acc l : List Int}, plG acc ws = some l → l.length = acc.length + ws.length ∧ ((∀ v ∈ acc, I64 v) → ∀ v ∈ l, I64 v)
  | [], acc, l, h => by injection h with h; subst h; exact ⟨by simp, fun h => h⟩
  | w :: ws, acc, l, h => by
    rw [plG] at h
    split at h
    · cases h
    · rename_i n hn
      obtain ⟨h1, h2⟩ := plG_facts h
      have := pInt_bd hn
      refine ⟨by rw [h1]; simp; omega, fun ha => h2 fun v hv => ?_⟩
      rcases List.mem_append.1 hv with e | e
      · exact ha v e
      · rw [List.mem_singleton.1 e]
        exact ⟨by omega, by omega⟩
theorem pList_facts {s : ByteArray} {l : List Int} (h : pList s = some l) : l.length ≤ s.size + 1 ∧ ∀ v ∈ l, I64 v := by
  unfold pList at h
  split at h
  · injection h with h; subst h; simp
  · obtain ⟨h1, h2⟩ := plG_facts h
    have := splB_length 44 s
    exact ⟨by rw [h1]; simpa using this, h2 (by simp)⟩
theorem spl_at {c : UInt8} {s : ByteArray} {k : Nat} (hs : s.size ≤ 1000000000) (h : k < (splB c s).length) : (splB c s)[k].size ≤ 1000000000 := Nat.le_trans (splB_piece (List.getElem_mem h)) hs
/-- what is handed back: the numbers, or none -/
def PlRes (s : ByteArray) (w : World) (e : Ending) (w' : World) : Prop := ∃ v F, e = .returned (.tuple #[v, .bool (pList s).isSome]) ∧ (∃ y, w' = ext w y) ∧ SV 3 1 sI w' v ((pList s).getD []) F ∧ ∀ b ∈ F, w.heap.size ≤ b
set_option maxHeartbeats 1000000 in
theorem parseList_any {s : ByteArray} {w : World} (hs : s.size ≤ 1000000000) : Calls Try.prog 131 #[.string s, .int .u8 44] w (PlRes s w) := by
  by_cases h0 : s.size = 0
  · have he := isEmpty_yes h0
    have HR := Lib.hid (show pList s = some [] by unfold pList; rw [if_pos h0])
    clear h0
    go_enter Try.func131, Try.ntmps131
    go_wp2
    go_ret2
    exact ⟨_, [], by rw [HR.out]; rfl, refl_ext w, by rw [HR.out]; exact SV.nil, by simp⟩
  · have he := isEmpty_no (s := s) (by omega)
    have HR := Lib.hid (show pList s = plG [] (splB 44 s) by unfold pList; rw [if_neg h0])
    have hlen := splB_length 44 s
    obtain ⟨n, hn⟩ : ∃ n, (splB 44 s).length = n := ⟨_, rfl⟩
    have HN := Lib.hid hn
    have hn1 : (splB 44 s).length ≤ n := by omega
    have hn2 : n ≤ (splB 44 s).length := by omega
    have hn3 : n ≤ 1000000001 := by omega
    clear h0 hn
    go_enter Try.func131, Try.ntmps131
    go_wp2_with (go_at_call 99; refine (split_c 44 44 hs HN.out (by decide)).mono ?_; rintro e w1 ⟨A1, c1, rfl, hx1, r1⟩)
    go_loopw [6, 17] (fun v i wr => ∃ (k : Nat) (ds : List Int) (F : List Nat), i = .int .i64 k ∧ k ≤ n ∧ SV 3 1 sI wr v ds F ∧ (∀ b ∈ F, w1.heap.size ≤ b) ∧ (∃ y, wr = ext w1 y) ∧ ds.length = k ∧ plG ds ((splB 44 s).drop k) = plG [] (splB 44 s)) (fun _ i _ => n - (intOf i).toNat)
    case atStart => exact ⟨0, [], [], rfl, by omega, SV.nil, by simp, refl_ext _, rfl, by simp⟩
    case round =>
      obtain ⟨k, ds, F, rfl, hk, hS, hF, hy, hl, hj⟩ := hrel
      have Hj := Lib.hid hj
      have HF := Lib.hid hF
      have Hl := Lib.hid hl
      have hl1 : ds.length ≤ k := by omega
      have hwr : ∃ y, wr = ext w y := trans_ext (by repeat (with_reducible (first | exact refl_ext _ | exact alloc_ext _ _ | exact drew_ext _ | assumption | refine trans_ext ?_ (drew_ext _) | refine trans_ext ?_ (alloc_ext _ _) | refine trans_ext ?_ (by assumption)))) hy
      clear hj hF hl
      by_cases hlt : k < n
      · have hlt2 : k < (splB 44 s).length := by omega
        have hsk := spl_at hs hlt2
        obtain ⟨b, o, rfl, hb, hc⟩ := (r1.toExt hy).atS hlt2
        obtain ⟨p, hp⟩ : ∃ p, (splB 44 s)[k] = p := ⟨_, rfl⟩
        rw [hp] at hsk hc
        obtain ⟨o, ho⟩ : ∃ o, pInt p = o := ⟨_, rfl⟩
        cases o with
        | some r =>
          have HE := Lib.hid (show plG (ds ++ [r]) ((splB 44 s).drop (k + 1)) = plG [] (splB 44 s) by rw [← Hj.out, plG_some hlt2 (by rw [hp]; exact ho)])
          have Hr := Lib.hid ho
          clear ho hp
          go_wp2_with (first
            | (go_at_call 130; refine (ParseInt_any hsk).mono ?_; unfold PiRes; rintro e w2 ⟨rfl, hx2⟩; rw [Hr.out]; simp only [Option.getD_some, Option.isSome_some])
            | (at_builtin; refine wpList_app1 (E := sI) (d := r) rfl _ _ _ rfl tI rfl rfl rfl (by simp) (fun _ => ⟨rfl, rfl⟩) rfl (by simp [Value.oneCell']) (hS.toExt (by refine x'z ?_; repeat (with_reducible (first | exact x'a _ _ | exact x'b _ | exact x'c (by assumption) | refine x'd ?_ (by assumption) | refine x'e ?_ _ | refine x'f ?_ _ | refine x'g ?_ | refine x'h ?_ ?_ _ | refine x'i ?_ _ | refine x'j ?_ | refine x'k ?_ _ | refine x'l ?_ _ _ | refine x'm ?_ | assumption | (refine x'n ?_; omega) | omega)))) (by omega) (by omega) ?_; intro v' w' F' hS' hC' hF'))
          exact ⟨⟨k + 1, ds ++ [r], F', by go_num, by omega, hS', newer HF.out (size_of_ext (by refine x'z ?_; repeat (with_reducible (first | exact x'a _ _ | exact x'b _ | exact x'c (by assumption) | refine x'd ?_ (by assumption) | refine x'e ?_ _ | refine x'f ?_ _ | refine x'g ?_ | refine x'h ?_ ?_ _ | refine x'i ?_ _ | refine x'j ?_ | refine x'k ?_ _ | refine x'l ?_ _ _ | refine x'm ?_ | assumption | (refine x'n ?_; omega) | omega)))) hF', hC'.isExt (by refine x'z ?_; repeat (with_reducible (first | exact x'a _ _ | exact x'b _ | exact x'c (by assumption) | refine x'd ?_ (by assumption) | refine x'e ?_ _ | refine x'f ?_ _ | refine x'g ?_ | refine x'h ?_ ?_ _ | refine x'i ?_ _ | refine x'j ?_ | refine x'k ?_ _ | refine x'l ?_ _ _ | refine x'm ?_ | assumption | (refine x'n ?_; omega) | omega))) HF.out, by simp [Hl.out], HE.out⟩, by simp [intOf]; omega⟩
        | none =>
          have HE := Lib.hid (show pList s = none by rw [HR.out, ← Hj.out, plG_none hlt2 (by rw [hp]; exact ho)])
          have Hr := Lib.hid ho
          clear ho hp
          go_wp2_with (first
            | (go_at_call 130; refine (ParseInt_any hsk).mono ?_; unfold PiRes; rintro e w2 ⟨rfl, hx2⟩; rw [Hr.out]; simp only [Option.getD_none, Option.isSome_none]))
          go_ret2
          exact ⟨_, [], by rw [HE.out]; rfl, trans_ext hwr (by refine x'z ?_; repeat (with_reducible (first | exact x'a _ _ | exact x'b _ | exact x'c (by assumption) | refine x'd ?_ (by assumption) | refine x'e ?_ _ | refine x'f ?_ _ | refine x'g ?_ | refine x'h ?_ ?_ _ | refine x'i ?_ _ | refine x'j ?_ | refine x'k ?_ _ | refine x'l ?_ _ _ | refine x'm ?_ | assumption | (refine x'n ?_; omega) | omega))), by rw [HE.out]; exact SV.nil, by simp⟩
      · have e := Hj.out
        rw [plG_end (by omega)] at e
        have HE := Lib.hid (show pList s = some ds by rw [HR.out, e])
        clear e
        go_wp2
        go_ret2
        exact ⟨_, F, by rw [HE.out]; rfl, hwr, by rw [HE.out]; exact hS, fun b hb => Nat.le_trans (size_of_ext (by repeat (with_reducible (first | exact refl_ext _ | exact alloc_ext _ _ | exact drew_ext _ | assumption | refine trans_ext ?_ (drew_ext _) | refine trans_ext ?_ (alloc_ext _ _) | refine trans_ext ?_ (by assumption))))) (HF.out b hb)⟩
end Go.Proofs.Ytfigcfajkilhiaa

/- Relations read from text: the program's way. -/
namespace Go.Proofs.Ytfigcfajkilhiaa
open Go.RowKit
theorem prG_step {acc : List (List Int)} {ws : List ByteArray} {k : Nat} (h : k < ws.length) : prG acc (ws.drop k) = (if ws[k].size < 2 then none else match pList (ws[k].extract 1 (ws[k].size - 1)) with | none => none | some r => prG (acc ++ [r]) (ws.drop (k + 1))) := by
  rw [List.drop_eq_getElem_cons h, prG] <;> rfl
theorem prG_end {acc : List (List Int)} {ws : List ByteArray} {k : Nat} (h : ¬ k < ws.length) : prG acc (ws.drop k) = some acc := by
  rw [List.drop_eq_nil_of_le (by omega), prG]
set_option maxRecDepth 100000 in
set_option maxHeartbeats 16000000 in
theorem ParseRelation_any {s : ByteArray} {w : World} (hs : s.size ≤ 1048576) : Calls Try.prog 53 #[.string s] w (RelOut (pRel s) w) := by
  have hpos := splB_pos 58 s
  obtain ⟨p, hp⟩ : ∃ p, (splB 58 s).getD 0 ⟨#[]⟩ = p := ⟨_, rfl⟩
  have HP := Lib.hid hp
  have hps : p.size ≤ s.size := by
    rw [← hp, show (splB 58 s).getD 0 ⟨#[]⟩ = (splB 58 s)[0] by simp [List.getD_eq_getElem?_getD, hpos]]
    exact splB_piece (List.getElem_mem hpos)
  obtain ⟨ws, hws⟩ : ∃ ws, splB 58 s = ws := ⟨_, rfl⟩
  have HW := Lib.hid hws
  rw [hws] at hpos HP
  have hw58 : ws.length ≤ s.size + 1 := by rw [← hws]; exact splB_length 58 s
  clear hp hws
  go_enter Try.func53, Try.ntmps53
  go_upto_region 1 with fail
  refine wp_name ?_
  intro W hW
  have xW : ∃ y, W = ext w y := by rw [hW.out]; exact (by refine x'z ?_; repeat (with_reducible (first | exact x'a _ _ | exact x'b _ | exact x'c (by assumption) | refine x'd ?_ (by assumption) | refine x'e ?_ _ | refine x'f ?_ _ | refine x'g ?_ | refine x'h ?_ ?_ _ | refine x'i ?_ _ | refine x'j ?_ | refine x'k ?_ _ | refine x'l ?_ _ _ | refine x'm ?_ | assumption | (refine x'n ?_; omega) | omega)))
  have BW0 : BoxAt W (w.heap.size) #[.int .i64 0, .slice none 0 0] := by rw [hW.out]; refine ⟨?_, fun j => ?_, fun j => ?_⟩ <;> go_simp
  obtain ⟨lW0, bW0, fW0⟩ := BW0
  have cW0_0 : W.cell? ⟨w.heap.size, 0, none⟩ = some (.int .i64 0) := bW0 0
  have cW0_1 : W.cell? ⟨w.heap.size, 1, none⟩ = some (.slice none 0 0) := bW0 1
  clear hW
  have RW : BoxAt W w.heap.size #[.int .i64 0, .slice none 0 0] := ⟨lW0, bW0, fW0⟩
  clear bW0 fW0 cW0_0 cW0_1
  go_wp2_with fail
  refine (split_m 58 58 (by omega) (by decide)).mono ?_
  rintro e w1 ⟨vw, Fw, rfl, hx1, hSw, hFw⟩
  rw [HW.out] at hSw
  obtain ⟨A1, c1, rfl, _, _, r1⟩ := hSw.view sS_v
  have hx01 := trans_ext xW hx1
  have R1 := RW.toExt hx1
  obtain ⟨b1, o1, rfl, hb1, hc1⟩ := r1.atS1 hpos HP.out
  clear hSw hFw RW lW0
  go_wp2_with fail
  refine (ParseInt_any (by omega)).mono ?_
  unfold PiRes
  rintro e w2 ⟨rfl, hx2⟩
  obtain ⟨l2, k2, k2', f2⟩ := bx2 (R1.toExt hx2)
  have R2 := R1.toExt hx2
  have hx02 := trans_ext hx01 hx2
  have r2 := r1.toExt hx2
  clear R1
  cases ho : pInt p with
  | none =>
    have HZ := Lib.hid (show pRel s = none by unfold pRel; rw [HW.out, HP.out, ho])
    simp only [Option.getD_none, Option.isSome_none]
    clear ho
    go_wp2
    refine bodyPost_ret (v := .tuple #[.agg #[.int .i64 0, .slice none 0 0], .bool false]) (by simp [results, Try.results53, go_sem, *]) rfl (relOut_none HZ.out rfl (by refine x'z ?_; repeat (with_reducible (first | exact x'a _ _ | exact x'b _ | exact x'c (by assumption) | refine x'd ?_ (by assumption) | refine x'e ?_ _ | refine x'f ?_ _ | refine x'g ?_ | refine x'h ?_ ?_ _ | refine x'i ?_ _ | refine x'j ?_ | refine x'k ?_ _ | refine x'l ?_ _ _ | refine x'm ?_ | assumption | (refine x'n ?_; omega) | omega))))
  | some a =>
    have hab := pInt_bd ho
    by_cases hl : ws.length = 2
    · have q1 : ((ws.length : Int) != 2) = false := by simp [hl]
      have h2w : 1 < ws.length := by omega
      obtain ⟨p2, hp2⟩ : ∃ p, ws.getD 1 ⟨#[]⟩ = p := ⟨_, rfl⟩
      have hps2 : p2.size ≤ s.size := by
        rw [← hp2, show ws.getD 1 ⟨#[]⟩ = ws[1] by simp [List.getD_eq_getElem?_getD, h2w]]
        have := splB_piece (c := 58) (s := s) (p := ws[1]) (by rw [HW.out]; exact List.getElem_mem h2w)
        exact this
      have HP2 := Lib.hid hp2
      have HE := Lib.hid (show pRel s = (if p2.size = 0 then finR (a, []) s else match prG [] (splB 32 p2) with | none => none | some rows => finR (a, rows) s) by
        unfold pRel
        rw [HW.out, HP.out, ho, hp2]
        simp only
        rw [if_pos hl] <;> rfl)
      simp only [Option.getD_some, Option.isSome_some]
      clear hp2 ho hl
      go_upto_region 6 with fail
      refine wp_name ?_
      intro W3 hW3
      have x3 : ∃ y, W3 = ext w2 y := by rw [hW3.out]; exact (by refine x'z ?_; repeat (with_reducible (first | exact x'a _ _ | exact x'b _ | exact x'c (by assumption) | refine x'd ?_ (by assumption) | refine x'e ?_ _ | refine x'f ?_ _ | refine x'g ?_ | refine x'h ?_ ?_ _ | refine x'i ?_ _ | refine x'j ?_ | refine x'k ?_ _ | refine x'l ?_ _ _ | refine x'm ?_ | assumption | (refine x'n ?_; omega) | omega)))
      have B7 : BoxAt W3 w2.heap.size #[.int .i64 a, .slice none 0 0] := by rw [hW3.out]; exact (by repeat (with_reducible (first | assumption | exact BoxAt.new _ _ _ | apply BoxAt.set2 | refine BoxAt.set2' ?_ (by omega) | apply BoxAt.setP0 | apply BoxAt.setP1 | refine BoxAt.setO ?_ (by omega) | refine BoxAt.alloc ?_ _ | refine BoxAt.drew ?_ | refine BoxAt.toExt ?_ (by assumption))))
      have hb7 : w.heap.size < w2.heap.size := l2
      have R3 := R2.toExt x3
      have r3 := r2.toExt x3
      have hx03 := trans_ext hx02 x3
      obtain ⟨b7, q7⟩ : ∃ b, w2.heap.size = b := ⟨_, rfl⟩
      rw [q7] at B7 hb7 ⊢
      have hb7w : b7 < W3.heap.size := B7.1
      clear hW3 x3 q7 R2 r1 r2 l2 k2 k2' f2 hb1 hc1 hx1 hx2 hx01 hx02 xW
      obtain ⟨b1', o1', e1, hb1, hc1⟩ := r3.atS h2w
      injection e1 with e1
      injection e1 with e1 e2
      subst e1 e2
      rw [show ws[1] = p2 by rw [← HP2.out]; simp [List.getD_eq_getElem?_getD, h2w]] at hc1
      by_cases hz : p2.size = 0
      · have z1 := isEmpty_yes hz
        have z2 : (p2.toList != (ByteArray.mk #[]).toList) = false := str_bnet (bl_inj (size_zero hz))
        have z3 : (p2.toList == (ByteArray.mk #[]).toList) = true := str_beqt (bl_inj (size_zero hz))
        have HE3 := Lib.hid (show pRel s = finR (a, []) s by rw [HE.out, if_pos hz])
        have HS : Hid (SV 48 1 sRow W3 (.slice none ([] : List (List Int)).length 0) [] []) := Lib.hid SV.nil
        have HB := Lib.hid B7
        have HR5 := Lib.hid R3
        have HXr := Lib.hid hx03
        have HRN : Hid (([] : List (List Int)).length ≤ 1000000000) := Lib.hid (by simp)
        have HRL : Hid (∀ x ∈ ([] : List (List Int)), x.length ≤ 1000000000) := Lib.hid (by simp)
        have HN : Hid ([] : List Nat).Nodup := Lib.hid (by simp)
        have HFN : Hid (∀ b ∈ ([] : List Nat), w.heap.size < b) := Lib.hid (by simp)
        clear hz B7 R3
        have hq : sRel W3 [.int .i64 a, .slice none ([] : List (List Int)).length 0] (a, ([] : List (List Int))) [] := sRel_mk ⟨_, rfl, HS.out⟩
        have HQ := Lib.hid hq
        have HV := Lib.hid (vII_get (vRel_get (sRel_v _ _ _ hq)).2).2
        obtain ⟨l7, k7, k7', f7⟩ := bx2 HB.out
        obtain ⟨l5, k5, k5', f5⟩ := bx2 HR5.out
        clear hq
        obtain ⟨t, ht⟩ : ∃ t, fmtR (a, ([] : List (List Int))) = t := ⟨_, rfl⟩
        have HT := Lib.hid ht
        have hs0 : s.size ≠ 0 := by omega
        by_cases hts : t = s
        · have q8 := str_bnet hts
          have q9 := str_beqt hts
          have HE4 := Lib.hid (show pRel s = some (a, ([] : List (List Int))) by rw [HE3.out]; unfold finR; rw [if_pos ⟨ht.trans hts, hs0⟩])
          clear ht hts
          go_wp2_with (go_at_call 54; refine (FormatRelation_w HRN.out HRL.out HV.out).mono ?_; rintro e w8 ⟨rfl, hx8⟩; rw [HT.out]; obtain ⟨l8, k8, k8', f8⟩ := bx2 (HB.out.toExt hx8); obtain ⟨l9, k9, k9', f9⟩ := bx2 (HR5.out.toExt hx8))
          have hX := HXr.out
          have hQ8 : sRel w8 [.int .i64 a, .slice none ([] : List (List Int)).length 0] (a, ([] : List (List Int))) [] := OD.toExt HQ.out hx8
          refine bodyPost_ret (v := .tuple #[.agg #[.int .i64 a, .slice none ([] : List (List Int)).length 0], .bool true]) (by simp [results, Try.results53, go_sem, *]) rfl ⟨_, _, [], by rw [HE4.out]; rfl, (by refine x'z ?_; repeat (with_reducible (first | exact x'a _ _ | exact x'b _ | exact x'c (by assumption) | refine x'd ?_ (by assumption) | refine x'e ?_ _ | refine x'f ?_ _ | refine x'g ?_ | refine x'h ?_ ?_ _ | refine x'i ?_ _ | refine x'j ?_ | refine x'k ?_ _ | refine x'l ?_ _ _ | refine x'm ?_ | assumption | (refine x'n ?_; omega) | omega))), by rw [HE4.out]; exact OD.chg (G := [w.heap.size]) hQ8 (by repeat (with_reducible (first | exact Chg.refl _ _ | refine Chg.trans0 ?_ (by assumption) | refine Chg.extS ?_ _ | refine Chg.alloc ?_ _ | refine Chg.drew ?_ | refine Chg.setCell ?_ (.inl (by simp)) _))) (fun b hb h => by have := HFN.out b hb; rw [List.mem_singleton.1 h] at this; omega), HN.out, fun b hb => Nat.le_of_lt (HFN.out b hb)⟩
        · have q8 := str_bnef hts
          have q9 := str_beqf hts
          have HZ := Lib.hid (show pRel s = none by rw [HE3.out]; unfold finR; rw [if_neg (fun h => hts (ht.symm.trans h.1))])
          clear ht hts
          go_wp2_with (go_at_call 54; refine (FormatRelation_w HRN.out HRL.out HV.out).mono ?_; rintro e w8 ⟨rfl, hx8⟩; rw [HT.out]; obtain ⟨l8, k8, k8', f8⟩ := bx2 (HB.out.toExt hx8); obtain ⟨l9, k9, k9', f9⟩ := bx2 (HR5.out.toExt hx8))
          have hX := HXr.out
          refine bodyPost_ret (v := .tuple #[.agg #[.int .i64 0, .slice none 0 0], .bool false]) (by simp [results, Try.results53, go_sem, *]) rfl (relOut_none HZ.out rfl (by refine x'z ?_; repeat (with_reducible (first | exact x'a _ _ | exact x'b _ | exact x'c (by assumption) | refine x'd ?_ (by assumption) | refine x'e ?_ _ | refine x'f ?_ _ | refine x'g ?_ | refine x'h ?_ ?_ _ | refine x'i ?_ _ | refine x'j ?_ | refine x'k ?_ _ | refine x'l ?_ _ _ | refine x'm ?_ | assumption | (refine x'n ?_; omega) | omega))))
      · have z1 := isEmpty_no (s := p2) (by omega)
        have z2 := toList_empty (s := p2) (by omega)
        have z3 : (p2.toList != (ByteArray.mk #[]).toList) = true := by rw [bne, z2]; rfl
        obtain ⟨xs, hxs⟩ : ∃ xs, splB 32 p2 = xs := ⟨_, rfl⟩
        have HE2 := Lib.hid (show pRel s = (match prG [] xs with | none => none | some rows => finR (a, rows) s) by rw [HE.out, if_neg hz, hxs])
        clear hz HE
        go_wp2_with fail
        refine (split_m 32 32 (by omega) (by decide)).mono ?_
        rintro e w4 ⟨vx, Fx, rfl, hx4, hSx, hFx⟩
        have hxl : xs.length ≤ p2.size + 1 := by rw [← hxs]; exact splB_length 32 p2
        have hxp : ∀ x ∈ xs, x.size ≤ p2.size := by rw [← hxs]; exact fun x hx => splB_piece hx
        rw [hxs] at hSx
        obtain ⟨Ax, cx, rfl, _, _⟩ := hSx.form
        have B74 := B7.toExt hx4
        have R4 := R3.toExt hx4
        have HX4 := Lib.hid (trans_ext hx03 hx4)
        have hz4 := size_of_ext hx4
        have h7x : ∀ b ∈ Fx, b ∉ [b7] := fun b hb h => by have := hFx b hb; rw [List.mem_singleton.1 h] at this; omega
        have HSx := Lib.hid hSx
        have H7x := Lib.hid h7x
        have HR4 := Lib.hid R4
        have HXP := Lib.hid hxp
        have HB74 := Lib.hid B74
        have h74 : b7 < w4.heap.size := B74.1
        clear hxs hxp hSx hFx h7x B7 B74 R3 R4 r3 hb1 hc1 hx03 hx4 z1 z2 z3
        go_wp2_with fail
        go_loopw [40] (fun i wr => ∃ (k : Nat) (rows : List (List Int)) (A : Option Addr) (c : Nat) (F : List Nat), i = .int .i64 k ∧ k ≤ xs.length ∧ BoxAt wr b7 #[.int .i64 a, .slice A rows.length c] ∧ SV 48 1 sRow wr (.slice A rows.length c) rows F ∧ F.Nodup ∧ (∀ b ∈ F, w4.heap.size ≤ b) ∧ Chg [b7] w4 wr ∧ rows.length ≤ k ∧ (∀ x ∈ rows, x.length ≤ 1000000000) ∧ Hid (prG rows (xs.drop k) = prG [] xs)) (fun i _ => xs.length - (intOf i).toNat)
        case atStart => exact ⟨0, [], none, 0, [], rfl, by omega, HB74.out, SV.nil, by simp, by simp, Chg.refl _ _, by simp, by simp, Lib.hid rfl⟩
        case round =>
          obtain ⟨k, rows, A, c, F, rfl, hk, hB, hS, hN, hF, hC, hrl, hrx, Hj⟩ := hrel
          have HS := Lib.hid hS
          have HN := Lib.hid hN
          have HF := Lib.hid hF
          have HC := Lib.hid hC
          have HRL := Lib.hid hrx
          have HB := Lib.hid hB
          have h7r : b7 < wr.heap.size := hB.1
          by_cases hlt : k < xs.length
          · obtain ⟨_, _, e5, _, _, rx⟩ := (HSx.out.chg hC H7x.out).view sS_v
            injection e5 with e5 _ e6
            subst e5 e6
            obtain ⟨bx, ox, rfl, hbx, hcx⟩ := rx.atS hlt
            obtain ⟨wd, hwd⟩ : ∃ x, xs[k] = x := ⟨_, rfl⟩
            have hwdp : wd.size ≤ p2.size := by rw [← hwd]; exact HXP.out _ (List.getElem_mem hlt)
            have ej := Hj.out
            rw [prG_step hlt] at ej
            rw [hwd] at ej hcx
            have HX0 := Lib.hid (hC.isExt HX4.out (by simp; omega))
            have R5 := HR4.out.chg hC (by simp; omega)
            clear hwd hS hN hF hC hrx hB rx
            by_cases h2 : wd.size < 2
            · rw [if_pos h2] at ej
              have HZ := Lib.hid (show pRel s = none by rw [HE2.out, ← ej])
              have hX := HX0.out
              obtain ⟨l5, k5, k5', f5⟩ := bx2 R5
              clear ej
              go_wp2
              refine bodyPost_ret (v := .tuple #[.agg #[.int .i64 0, .slice none 0 0], .bool false]) (by simp [results, Try.results53, go_sem, *]) rfl (relOut_none HZ.out rfl (by refine x'z ?_; repeat (with_reducible (first | exact x'a _ _ | exact x'b _ | exact x'c (by assumption) | refine x'd ?_ (by assumption) | refine x'e ?_ _ | refine x'f ?_ _ | refine x'g ?_ | refine x'h ?_ ?_ _ | refine x'i ?_ _ | refine x'j ?_ | refine x'k ?_ _ | refine x'l ?_ _ _ | refine x'm ?_ | assumption | (refine x'n ?_; omega) | omega))))
            · rw [if_neg h2] at ej
              have hes : (wd.extract 1 (wd.size - 1)).size ≤ 1000000000 := by rw [ByteArray.size_extract]; omega
              have hes2 : (wd.extract 1 (wd.size - 1)).size ≤ p2.size := by rw [ByteArray.size_extract]; omega
              have hw1 : ((wd.size : Int) - 1).toNat = wd.size - 1 := by omega
              obtain ⟨o5, ho5⟩ : ∃ o, pList (wd.extract 1 (wd.size - 1)) = o := ⟨_, rfl⟩
              have HO5 := Lib.hid ho5
              have Hin5 : Hid (∀ r, o5 = some r → r.length ≤ 1048577) := Lib.hid (fun r hr => by
                have := (pList_facts (ho5.trans hr)).1
                omega)
              rw [ho5] at ej
              clear ho5
              go_upto_region 13 with (go_at_call 131; refine (parseList_any hes).mono ?_; rintro e w5 ⟨vv5, F5, rfl, hx5, hS5, hF5⟩; rw [HO5.out] at hS5 ⊢)
              cases o5 with
              | none =>
                have HZ := Lib.hid (show pRel s = none by rw [HE2.out, ← ej])
                obtain ⟨l5, k5, k5', f5⟩ := bx2 (R5.toExt hx5)
                have hX := trans_ext HX0.out hx5
                clear ej hS5 hF5 R5
                simp only [Option.isSome_none]
                go_wp2
                refine bodyPost_ret (v := .tuple #[.agg #[.int .i64 0, .slice none 0 0], .bool false]) (by simp [results, Try.results53, go_sem, *]) rfl (relOut_none HZ.out rfl (by refine x'z ?_; repeat (with_reducible (first | exact x'a _ _ | exact x'b _ | exact x'c (by assumption) | refine x'd ?_ (by assumption) | refine x'e ?_ _ | refine x'f ?_ _ | refine x'g ?_ | refine x'h ?_ ?_ _ | refine x'i ?_ _ | refine x'j ?_ | refine x'k ?_ _ | refine x'l ?_ _ _ | refine x'm ?_ | assumption | (refine x'n ?_; omega) | omega))))
              | some r =>
                have hr6 := Hin5.out r rfl
                simp only [Option.getD_some, Option.isSome_some] at hS5 ej ⊢
                have HEJ := Lib.hid ej
                obtain ⟨Av, cv, rfl, _, _⟩ := hS5.form
                have B5 := HB.out.toExt hx5
                have S5 := HS.out.toExt hx5
                have C5 : Chg [b7] w4 w5 := HC.out.trans0 hx5
                have hz5 := size_of_ext hx5
                have hzc := HC.out.size
                have h7nF : b7 ∉ F := fun h => by have := HF.out b7 h; omega
                have hNN := nodup_more HN.out hS5.nodup HS.out.lt hF5
                have hal2 : rows.length + 1 ≤ 2000000000 := by omega
                obtain ⟨l5, k5, k5', f5⟩ := bx2 B5
                have HF5 := Lib.hid hF5
                have HC5 := Lib.hid C5
                have HS5 := Lib.hid hS5
                clear ej hF5 C5 R5 hS5
                go_wp2_with (at_builtin; refine wpList_appN (E := sRow) (d := r) (G := F5) rfl _ _ _ rfl tIIr rfl rfl rfl (by simp) ⟨_, rfl, HS5.out⟩ rfl (by simp [Value.oneCell']) S5 hNN hal2 (by omega) ?_; intro v6 w6 F6 hS6 hC6 hN6 hF6; obtain ⟨A6, c6, rfl, _, _⟩ := hS6.form; have B6 := B5.chg hC6 h7nF; obtain ⟨l6, k6, k6', f6⟩ := bx2 B6)
                have hF6n : ∀ b ∈ F6, w4.heap.size ≤ b := fun b hb => by
                  rcases hF6 b hb with h | h | h
                  · exact HF.out b h
                  · have := HF5.out b h; omega
                  · omega
                have hCa := (HC5.out.trans hC6 (fun x hx => .inr (HF.out x hx))).setCell (p := ⟨b7, 1, none⟩) (.inl (by simp)) (.slice A6 (rows ++ [r]).length c6)
                have hSf := hS6.chg ((Chg.refl [b7] w6).setCell (p := ⟨b7, 1, none⟩) (.inl (by simp)) (.slice A6 (rows ++ [r]).length c6)) (fun b hb h => by have := hF6n b hb; rw [List.mem_singleton.1 h] at this; omega)
                have hBf := B6.setP1 (v' := .slice A6 (rows ++ [r]).length c6)
                have HRf : ∀ x ∈ rows ++ [r], x.length ≤ 1000000000 := fun x hx => by
                  rcases List.mem_append.1 hx with h | h
                  · exact HRL.out x h
                  · rw [List.mem_singleton.1 h]; omega
                rw [show rows.length + 1 = (rows ++ [r]).length by simp]
                exact ⟨⟨k + 1, rows ++ [r], A6, c6, F6, by go_num, by omega, hBf, hSf, hN6, hF6n, hCa, by simp; omega, HRf, Lib.hid HEJ.out⟩, by simp [intOf]; omega⟩
          · have ej := Hj.out
            rw [prG_end hlt] at ej
            have HE3 := Lib.hid (show pRel s = finR (a, rows) s by rw [HE2.out, ← ej])
            have HXr := Lib.hid (hC.isExt HX4.out (by simp; omega))
            have HR5 := Lib.hid (HR4.out.chg hC (by simp; omega))
            have HRN : Hid (rows.length ≤ 1000000000) := Lib.hid (by omega)
            have hz4w := size_of_ext HX4.out
            have HFN : Hid (∀ b ∈ F, w.heap.size < b) := Lib.hid (fun b hb => by have := HF.out b hb; omega)
            clear ej hS hN hF hC hrx hB
            have hq : sRel wr [.int .i64 a, .slice A rows.length c] (a, rows) F := sRel_mk ⟨_, rfl, HS.out⟩
            have HQ := Lib.hid hq
            have HV := Lib.hid (vII_get (vRel_get (sRel_v _ _ _ hq)).2).2
            obtain ⟨l7, k7, k7', f7⟩ := bx2 HB.out
            obtain ⟨l5, k5, k5', f5⟩ := bx2 HR5.out
            clear hq
            obtain ⟨t, ht⟩ : ∃ t, fmtR (a, rows) = t := ⟨_, rfl⟩
            have HT := Lib.hid ht
            have hs0 : s.size ≠ 0 := by omega
            by_cases hts : t = s
            · have q8 := str_bnet hts
              have q9 := str_beqt hts
              have HE4 := Lib.hid (show pRel s = some (a, rows) by rw [HE3.out]; unfold finR; rw [if_pos ⟨ht.trans hts, hs0⟩])
              clear ht hts
              go_wp2_with (go_at_call 54; refine (FormatRelation_w HRN.out HRL.out HV.out).mono ?_; rintro e w8 ⟨rfl, hx8⟩; rw [HT.out]; obtain ⟨l8, k8, k8', f8⟩ := bx2 (HB.out.toExt hx8); obtain ⟨l9, k9, k9', f9⟩ := bx2 (HR5.out.toExt hx8))
              have hX := HXr.out
              have hQ8 : sRel w8 [.int .i64 a, .slice A rows.length c] (a, rows) F := OD.toExt HQ.out hx8
              refine bodyPost_ret (v := .tuple #[.agg #[.int .i64 a, .slice A rows.length c], .bool true]) (by simp [results, Try.results53, go_sem, *]) rfl ⟨_, _, F, by rw [HE4.out]; rfl, (by refine x'z ?_; repeat (with_reducible (first | exact x'a _ _ | exact x'b _ | exact x'c (by assumption) | refine x'd ?_ (by assumption) | refine x'e ?_ _ | refine x'f ?_ _ | refine x'g ?_ | refine x'h ?_ ?_ _ | refine x'i ?_ _ | refine x'j ?_ | refine x'k ?_ _ | refine x'l ?_ _ _ | refine x'm ?_ | assumption | (refine x'n ?_; omega) | omega))), by rw [HE4.out]; exact OD.chg (G := [w.heap.size]) hQ8 (by repeat (with_reducible (first | exact Chg.refl _ _ | refine Chg.trans0 ?_ (by assumption) | refine Chg.extS ?_ _ | refine Chg.alloc ?_ _ | refine Chg.drew ?_ | refine Chg.setCell ?_ (.inl (by simp)) _))) (fun b hb h => by have := HFN.out b hb; rw [List.mem_singleton.1 h] at this; omega), HN.out, fun b hb => Nat.le_of_lt (HFN.out b hb)⟩
            · have q8 := str_bnef hts
              have q9 := str_beqf hts
              have HZ := Lib.hid (show pRel s = none by rw [HE3.out]; unfold finR; rw [if_neg (fun h => hts (ht.symm.trans h.1))])
              clear ht hts
              go_wp2_with (go_at_call 54; refine (FormatRelation_w HRN.out HRL.out HV.out).mono ?_; rintro e w8 ⟨rfl, hx8⟩; rw [HT.out]; obtain ⟨l8, k8, k8', f8⟩ := bx2 (HB.out.toExt hx8); obtain ⟨l9, k9, k9', f9⟩ := bx2 (HR5.out.toExt hx8))
              have hX := HXr.out
              refine bodyPost_ret (v := .tuple #[.agg #[.int .i64 0, .slice none 0 0], .bool false]) (by simp [results, Try.results53, go_sem, *]) rfl (relOut_none HZ.out rfl (by refine x'z ?_; repeat (with_reducible (first | exact x'a _ _ | exact x'b _ | exact x'c (by assumption) | refine x'd ?_ (by assumption) | refine x'e ?_ _ | refine x'f ?_ _ | refine x'g ?_ | refine x'h ?_ ?_ _ | refine x'i ?_ _ | refine x'j ?_ | refine x'k ?_ _ | refine x'l ?_ _ _ | refine x'm ?_ | assumption | (refine x'n ?_; omega) | omega))))
    · have q1 : ((ws.length : Int) != 2) = true := by rw [bne_iff_ne]; omega
      have HZ := Lib.hid (show pRel s = none by
        unfold pRel
        rw [HW.out, HP.out, ho]
        simp only
        rw [if_neg hl])
      simp only [Option.getD_some, Option.isSome_some]
      clear ho hl
      go_wp2
      refine bodyPost_ret (v := .tuple #[.agg #[.int .i64 0, .slice none 0 0], .bool false]) (by simp [results, Try.results53, go_sem, *]) rfl (relOut_none HZ.out rfl (by refine x'z ?_; repeat (with_reducible (first | exact x'a _ _ | exact x'b _ | exact x'c (by assumption) | refine x'd ?_ (by assumption) | refine x'e ?_ _ | refine x'f ?_ _ | refine x'g ?_ | refine x'h ?_ ?_ _ | refine x'i ?_ _ | refine x'j ?_ | refine x'k ?_ _ | refine x'l ?_ _ _ | refine x'm ?_ | assumption | (refine x'n ?_; omega) | omega))))
end Go.Proofs.Ytfigcfajkilhiaa

/- Numbers read from text: the reference's way. -/
namespace Go.Proofs.Ytfigcfajkilhiaa
open Go.RowKit
theorem dgL_step {s : ByteArray} {n : Int} {k i : Nat} (h : i < s.size) (h11 : i < 11) (hd : isD s[i] = true) : dgG n k (((bl s).take 11).drop i) = dgG (n * 10 + ((s[i].toNat : Int) - 48)) (k + 1) (((bl s).take 11).drop (i + 1)) := by
  have hl : i < ((bl s).take 11).length := by rw [List.length_take, bl_length]; omega
  have e : ((bl s).take 11)[i] = s[i] := by rw [List.getElem_take]; rfl
  rw [dgG_step hl (by rw [e]; exact hd), e]
theorem dgL_skip {s : ByteArray} {n : Int} {k i : Nat} (h : i < s.size) (h11 : i < 11) (hd : ¬ isD s[i] = true) : dgG n k (((bl s).take 11).drop i) = dgG n k (((bl s).take 11).drop (i + 1)) := by
  have hl : i < ((bl s).take 11).length := by rw [List.length_take, bl_length]; omega
  have e : ((bl s).take 11)[i] = s[i] := by rw [List.getElem_take]; rfl
  rw [dgG_skip hl (by rw [e]; simpa using hd)]
theorem dgL_end {s : ByteArray} {n : Int} {k i : Nat} (h : ¬ (i < s.size ∧ i < 11)) : dgG n k (((bl s).take 11).drop i) = (n, k) := by
  rw [List.drop_eq_nil_of_le (by rw [List.length_take, bl_length]; omega), dgG]
theorem pw_le {n : Int} {k : Nat} (h : n < 10 ^ k) (hk : k ≤ 11) : n ≤ 100000000000 := by
  have h5 : (10 : Nat) ^ k ≤ 10 ^ 11 := Nat.pow_le_pow_right (by omega) hk
  have h6 : ((10 ^ k : Nat) : Int) ≤ ((10 ^ 11 : Nat) : Int) := by exact_mod_cast h5
  simp only [Int.natCast_pow] at h6
  have h7 : (((10 : Nat) : Int)) = 10 := rfl
  rw [h7] at h6
  omega
theorem pw_stepS {n d : Int} {k : Nat} (h : n < 10 ^ k) (hd : d ≤ 9) : n * 10 + d < 10 ^ (k + 1) := by
  have : (10 : Int) ^ (k + 1) = 10 ^ k * 10 := Int.pow_succ 10 k
  omega
theorem bl_head0 {s : ByteArray} (h : 0 < s.size) : (bl s).head? = some s[0] := by
  rw [List.head?_eq_getElem?, List.getElem?_eq_getElem (by rw [bl_length]; exact h), bl_get s h]
set_option maxHeartbeats 4000000 in
theorem specParseInt_any {s : ByteArray} {w : World} (hs : s.size ≤ 1000000000) : Calls Try.prog 139 #[.string s] w (PiRes s w) := by
  have HQ := Lib.hid (pIs_eq s)
  obtain ⟨R, hR⟩ : ∃ R, dgG 0 0 ((bl s).take 11) = R := ⟨_, rfl⟩
  have HRR := Lib.hid hR
  rw [hR] at HQ
  clear hR
  go_enter Try.func139, Try.ntmps139
  go_wp2
  go_loop [4, 5, 6] (fun n k i => ∃ (j : Nat) (m : Int) (q : Nat), i = .int .i64 j ∧ n = .int .i64 m ∧ k = .int .i64 q ∧ j ≤ s.size ∧ j ≤ 11 ∧ q ≤ j ∧ 0 ≤ m ∧ Hid (m < 10 ^ q) ∧ Hid (dgG m q (((bl s).take 11).drop j) = R)) (fun _ _ i => 11 - (intOf i).toNat)
  case atStart => exact ⟨0, 0, 0, rfl, rfl, rfl, by omega, by omega, by omega, by omega, Lib.hid (by decide), Lib.hid (by simpa using HRR.out)⟩
  case round =>
    obtain ⟨j, m, q, rfl, rfl, rfl, hj, hj11, hq, hm0, Hm, Hj⟩ := hrel
    have hm2 := pw_le Hm.out (by omega)
    by_cases hc : j < s.size ∧ j < 11
    · obtain ⟨hlt, h11⟩ := hc
      by_cases hd : isD s[j] = true
      · obtain ⟨q1, q2⟩ := isDt hd
        have e := Hj.out
        rw [dgL_step hlt h11 hd] at e
        have He := Lib.hid e
        have Hm3 := Lib.hid (pw_stepS (d := (s[j].toNat : Int) - 48) Hm.out (by omega))
        clear e hd
        go_wp2
        exact ⟨⟨j + 1, m * 10 + ((s[j].toNat : Int) - 48), q + 1, by go_num, rfl, by go_num, by omega, by omega, by omega, by omega, Hm3, He⟩, by simp [intOf]; omega⟩
      · have e := Hj.out
        rw [dgL_skip hlt h11 hd] at e
        have He := Lib.hid e
        rcases isDf hd with q' | q'
        all_goals
          clear e hd
          go_wp2
          exact ⟨⟨j + 1, m, q, by go_num, rfl, rfl, by omega, by omega, by omega, hm0, Hm, He⟩, by simp [intOf]; omega⟩
    · have e := Hj.out
      rw [dgL_end hc] at e
      have He := Lib.hid e.symm
      by_cases hneg : ∃ h : 0 < s.size, s[0] = 45
      · obtain ⟨hp, hc45⟩ := hneg
        have hq45 : ((s[0].toNat : Int) == 45) = true := by rw [hc45]; rfl
        have HZ := Lib.hid (show pIz s = -m by
          unfold pIz
          rw [HRR.out, ← e, show (bl s).head? = some 45 by rw [bl_head0 hp, hc45]]
          rfl)
        clear e hc45
        by_cases h1 : j < s.size
        · have h2 : ¬ j < 11 := fun h => hc ⟨h1, h⟩
          clear hc
          obtain ⟨t, ht⟩ : ∃ t, decI (-m) = t := ⟨_, rfl⟩
          have HT := Lib.hid ht
          by_cases hbig : 9 < q
          · have HR := Lib.hid (show pInt s = none by rw [HQ.out, He.out, if_neg (fun h => by have := h.1; dsimp only at this; omega)])
            clear ht
            go_wp2_with fail
            all_goals go_ret2
            all_goals exact piNone HR.out rfl (by refine x'z ?_; repeat (with_reducible (first | exact x'a _ _ | exact x'b _ | exact x'c (by assumption) | refine x'd ?_ (by assumption) | refine x'e ?_ _ | refine x'f ?_ _ | refine x'g ?_ | refine x'h ?_ ?_ _ | refine x'i ?_ _ | refine x'j ?_ | refine x'k ?_ _ | refine x'l ?_ _ _ | refine x'm ?_ | assumption | (refine x'n ?_; omega) | omega)))
          · by_cases hlen : 10 < s.size
            · have HR := Lib.hid (show pInt s = none by rw [HQ.out, if_neg (fun h => by have := h.2.1; omega)])
              clear ht
              go_wp2_with fail
              all_goals go_ret2
              all_goals exact piNone HR.out rfl (by refine x'z ?_; repeat (with_reducible (first | exact x'a _ _ | exact x'b _ | exact x'c (by assumption) | refine x'd ?_ (by assumption) | refine x'e ?_ _ | refine x'f ?_ _ | refine x'g ?_ | refine x'h ?_ ?_ _ | refine x'i ?_ _ | refine x'j ?_ | refine x'k ?_ _ | refine x'l ?_ _ _ | refine x'm ?_ | assumption | (refine x'n ?_; omega) | omega)))
            · by_cases hts : t = s
              · have HR := Lib.hid (show pInt s = some (-m) by rw [HQ.out, He.out, HZ.out, if_pos ⟨by dsimp only; omega, by omega, ht.trans hts⟩])
                have q1 := str_beqt hts
                have q2 := str_bnet hts
                clear hts ht
                go_wp2_with (go_at_call 169; refine (specFormatInt_any (by omega) (by omega)).mono ?_; rintro e w2 ⟨rfl, hx2⟩; rw [HT.out])
                all_goals go_ret2
                all_goals exact piSome HR.out rfl (by refine x'z ?_; repeat (with_reducible (first | exact x'a _ _ | exact x'b _ | exact x'c (by assumption) | refine x'd ?_ (by assumption) | refine x'e ?_ _ | refine x'f ?_ _ | refine x'g ?_ | refine x'h ?_ ?_ _ | refine x'i ?_ _ | refine x'j ?_ | refine x'k ?_ _ | refine x'l ?_ _ _ | refine x'm ?_ | assumption | (refine x'n ?_; omega) | omega)))
              · have HR := Lib.hid (show pInt s = none by rw [HQ.out, HZ.out, if_neg (fun h => hts (ht.symm.trans h.2.2))])
                have q1 := str_beqf hts
                have q2 := str_bnef hts
                clear hts ht
                go_wp2_with (go_at_call 169; refine (specFormatInt_any (by omega) (by omega)).mono ?_; rintro e w2 ⟨rfl, hx2⟩; rw [HT.out])
                all_goals go_ret2
                all_goals exact piNone HR.out rfl (by refine x'z ?_; repeat (with_reducible (first | exact x'a _ _ | exact x'b _ | exact x'c (by assumption) | refine x'd ?_ (by assumption) | refine x'e ?_ _ | refine x'f ?_ _ | refine x'g ?_ | refine x'h ?_ ?_ _ | refine x'i ?_ _ | refine x'j ?_ | refine x'k ?_ _ | refine x'l ?_ _ _ | refine x'm ?_ | assumption | (refine x'n ?_; omega) | omega)))
        · clear hc
          obtain ⟨t, ht⟩ : ∃ t, decI (-m) = t := ⟨_, rfl⟩
          have HT := Lib.hid ht
          by_cases hbig : 9 < q
          · have HR := Lib.hid (show pInt s = none by rw [HQ.out, He.out, if_neg (fun h => by have := h.1; dsimp only at this; omega)])
            clear ht
            go_wp2_with fail
            all_goals go_ret2
            all_goals exact piNone HR.out rfl (by refine x'z ?_; repeat (with_reducible (first | exact x'a _ _ | exact x'b _ | exact x'c (by assumption) | refine x'd ?_ (by assumption) | refine x'e ?_ _ | refine x'f ?_ _ | refine x'g ?_ | refine x'h ?_ ?_ _ | refine x'i ?_ _ | refine x'j ?_ | refine x'k ?_ _ | refine x'l ?_ _ _ | refine x'm ?_ | assumption | (refine x'n ?_; omega) | omega)))
          · by_cases hlen : 10 < s.size
            · have HR := Lib.hid (show pInt s = none by rw [HQ.out, if_neg (fun h => by have := h.2.1; omega)])
              clear ht
              go_wp2_with fail
              all_goals go_ret2
              all_goals exact piNone HR.out rfl (by refine x'z ?_; repeat (with_reducible (first | exact x'a _ _ | exact x'b _ | exact x'c (by assumption) | refine x'd ?_ (by assumption) | refine x'e ?_ _ | refine x'f ?_ _ | refine x'g ?_ | refine x'h ?_ ?_ _ | refine x'i ?_ _ | refine x'j ?_ | refine x'k ?_ _ | refine x'l ?_ _ _ | refine x'm ?_ | assumption | (refine x'n ?_; omega) | omega)))
            · by_cases hts : t = s
              · have HR := Lib.hid (show pInt s = some (-m) by rw [HQ.out, He.out, HZ.out, if_pos ⟨by dsimp only; omega, by omega, ht.trans hts⟩])
                have q1 := str_beqt hts
                have q2 := str_bnet hts
                clear hts ht
                go_wp2_with (go_at_call 169; refine (specFormatInt_any (by omega) (by omega)).mono ?_; rintro e w2 ⟨rfl, hx2⟩; rw [HT.out])
                all_goals go_ret2
                all_goals exact piSome HR.out rfl (by refine x'z ?_; repeat (with_reducible (first | exact x'a _ _ | exact x'b _ | exact x'c (by assumption) | refine x'd ?_ (by assumption) | refine x'e ?_ _ | refine x'f ?_ _ | refine x'g ?_ | refine x'h ?_ ?_ _ | refine x'i ?_ _ | refine x'j ?_ | refine x'k ?_ _ | refine x'l ?_ _ _ | refine x'm ?_ | assumption | (refine x'n ?_; omega) | omega)))
              · have HR := Lib.hid (show pInt s = none by rw [HQ.out, HZ.out, if_neg (fun h => hts (ht.symm.trans h.2.2))])
                have q1 := str_beqf hts
                have q2 := str_bnef hts
                clear hts ht
                go_wp2_with (go_at_call 169; refine (specFormatInt_any (by omega) (by omega)).mono ?_; rintro e w2 ⟨rfl, hx2⟩; rw [HT.out])
                all_goals go_ret2
                all_goals exact piNone HR.out rfl (by refine x'z ?_; repeat (with_reducible (first | exact x'a _ _ | exact x'b _ | exact x'c (by assumption) | refine x'd ?_ (by assumption) | refine x'e ?_ _ | refine x'f ?_ _ | refine x'g ?_ | refine x'h ?_ ?_ _ | refine x'i ?_ _ | refine x'j ?_ | refine x'k ?_ _ | refine x'l ?_ _ _ | refine x'm ?_ | assumption | (refine x'n ?_; omega) | omega)))
      · have HZ := Lib.hid (show pIz s = m by
          unfold pIz
          rw [HRR.out, ← e]
          have : ¬ (bl s).head? = some 45 := fun h => by
            by_cases hp : 0 < s.size
            · rw [bl_head0 hp] at h
              exact hneg ⟨hp, Option.some.inj h⟩
            · rw [size_zero (by omega)] at h
              cases h
          rw [decide_eq_false this]
          rfl)
        by_cases hp : 0 < s.size
        · have hc45 : ((s[0].toNat : Int) == 45) = false := by
            rw [beq_eq_false_iff_ne]
            intro e
            exact hneg ⟨hp, UInt8.toNat_inj.1 (by simpa using (by omega : s[0].toNat = 45))⟩
          clear e hneg
          by_cases h1 : j < s.size
          · have h2 : ¬ j < 11 := fun h => hc ⟨h1, h⟩
            clear hc
            obtain ⟨t, ht⟩ : ∃ t, decI (m) = t := ⟨_, rfl⟩
            have HT := Lib.hid ht
            by_cases hbig : 9 < q
            · have HR := Lib.hid (show pInt s = none by rw [HQ.out, He.out, if_neg (fun h => by have := h.1; dsimp only at this; omega)])
              clear ht
              go_wp2_with fail
              all_goals go_ret2
              all_goals exact piNone HR.out rfl (by refine x'z ?_; repeat (with_reducible (first | exact x'a _ _ | exact x'b _ | exact x'c (by assumption) | refine x'd ?_ (by assumption) | refine x'e ?_ _ | refine x'f ?_ _ | refine x'g ?_ | refine x'h ?_ ?_ _ | refine x'i ?_ _ | refine x'j ?_ | refine x'k ?_ _ | refine x'l ?_ _ _ | refine x'm ?_ | assumption | (refine x'n ?_; omega) | omega)))
            · by_cases hlen : 10 < s.size
              · have HR := Lib.hid (show pInt s = none by rw [HQ.out, if_neg (fun h => by have := h.2.1; omega)])
                clear ht
                go_wp2_with fail
                all_goals go_ret2
                all_goals exact piNone HR.out rfl (by refine x'z ?_; repeat (with_reducible (first | exact x'a _ _ | exact x'b _ | exact x'c (by assumption) | refine x'd ?_ (by assumption) | refine x'e ?_ _ | refine x'f ?_ _ | refine x'g ?_ | refine x'h ?_ ?_ _ | refine x'i ?_ _ | refine x'j ?_ | refine x'k ?_ _ | refine x'l ?_ _ _ | refine x'm ?_ | assumption | (refine x'n ?_; omega) | omega)))
              · by_cases hts : t = s
                · have HR := Lib.hid (show pInt s = some (m) by rw [HQ.out, He.out, HZ.out, if_pos ⟨by dsimp only; omega, by omega, ht.trans hts⟩])
                  have q1 := str_beqt hts
                  have q2 := str_bnet hts
                  clear hts ht
                  go_wp2_with (go_at_call 169; refine (specFormatInt_any (by omega) (by omega)).mono ?_; rintro e w2 ⟨rfl, hx2⟩; rw [HT.out])
                  all_goals go_ret2
                  all_goals exact piSome HR.out rfl (by refine x'z ?_; repeat (with_reducible (first | exact x'a _ _ | exact x'b _ | exact x'c (by assumption) | refine x'd ?_ (by assumption) | refine x'e ?_ _ | refine x'f ?_ _ | refine x'g ?_ | refine x'h ?_ ?_ _ | refine x'i ?_ _ | refine x'j ?_ | refine x'k ?_ _ | refine x'l ?_ _ _ | refine x'm ?_ | assumption | (refine x'n ?_; omega) | omega)))
                · have HR := Lib.hid (show pInt s = none by rw [HQ.out, HZ.out, if_neg (fun h => hts (ht.symm.trans h.2.2))])
                  have q1 := str_beqf hts
                  have q2 := str_bnef hts
                  clear hts ht
                  go_wp2_with (go_at_call 169; refine (specFormatInt_any (by omega) (by omega)).mono ?_; rintro e w2 ⟨rfl, hx2⟩; rw [HT.out])
                  all_goals go_ret2
                  all_goals exact piNone HR.out rfl (by refine x'z ?_; repeat (with_reducible (first | exact x'a _ _ | exact x'b _ | exact x'c (by assumption) | refine x'd ?_ (by assumption) | refine x'e ?_ _ | refine x'f ?_ _ | refine x'g ?_ | refine x'h ?_ ?_ _ | refine x'i ?_ _ | refine x'j ?_ | refine x'k ?_ _ | refine x'l ?_ _ _ | refine x'm ?_ | assumption | (refine x'n ?_; omega) | omega)))
          · clear hc
            obtain ⟨t, ht⟩ : ∃ t, decI (m) = t := ⟨_, rfl⟩
            have HT := Lib.hid ht
            by_cases hbig : 9 < q
            · have HR := Lib.hid (show pInt s = none by rw [HQ.out, He.out, if_neg (fun h => by have := h.1; dsimp only at this; omega)])
              clear ht
              go_wp2_with fail
              all_goals go_ret2
              all_goals exact piNone HR.out rfl (by refine x'z ?_; repeat (with_reducible (first | exact x'a _ _ | exact x'b _ | exact x'c (by assumption) | refine x'd ?_ (by assumption) | refine x'e ?_ _ | refine x'f ?_ _ | refine x'g ?_ | refine x'h ?_ ?_ _ | refine x'i ?_ _ | refine x'j ?_ | refine x'k ?_ _ | refine x'l ?_ _ _ | refine x'm ?_ | assumption | (refine x'n ?_; omega) | omega)))
            · by_cases hlen : 10 < s.size
              · have HR := Lib.hid (show pInt s = none by rw [HQ.out, if_neg (fun h => by have := h.2.1; omega)])
                clear ht
                go_wp2_with fail
                all_goals go_ret2
                all_goals exact piNone HR.out rfl (by refine x'z ?_; repeat (with_reducible (first | exact x'a _ _ | exact x'b _ | exact x'c (by assumption) | refine x'd ?_ (by assumption) | refine x'e ?_ _ | refine x'f ?_ _ | refine x'g ?_ | refine x'h ?_ ?_ _ | refine x'i ?_ _ | refine x'j ?_ | refine x'k ?_ _ | refine x'l ?_ _ _ | refine x'm ?_ | assumption | (refine x'n ?_; omega) | omega)))
              · by_cases hts : t = s
                · have HR := Lib.hid (show pInt s = some (m) by rw [HQ.out, He.out, HZ.out, if_pos ⟨by dsimp only; omega, by omega, ht.trans hts⟩])
                  have q1 := str_beqt hts
                  have q2 := str_bnet hts
                  clear hts ht
                  go_wp2_with (go_at_call 169; refine (specFormatInt_any (by omega) (by omega)).mono ?_; rintro e w2 ⟨rfl, hx2⟩; rw [HT.out])
                  all_goals go_ret2
                  all_goals exact piSome HR.out rfl (by refine x'z ?_; repeat (with_reducible (first | exact x'a _ _ | exact x'b _ | exact x'c (by assumption) | refine x'd ?_ (by assumption) | refine x'e ?_ _ | refine x'f ?_ _ | refine x'g ?_ | refine x'h ?_ ?_ _ | refine x'i ?_ _ | refine x'j ?_ | refine x'k ?_ _ | refine x'l ?_ _ _ | refine x'm ?_ | assumption | (refine x'n ?_; omega) | omega)))
                · have HR := Lib.hid (show pInt s = none by rw [HQ.out, HZ.out, if_neg (fun h => hts (ht.symm.trans h.2.2))])
                  have q1 := str_beqf hts
                  have q2 := str_bnef hts
                  clear hts ht
                  go_wp2_with (go_at_call 169; refine (specFormatInt_any (by omega) (by omega)).mono ?_; rintro e w2 ⟨rfl, hx2⟩; rw [HT.out])
                  all_goals go_ret2
                  all_goals exact piNone HR.out rfl (by refine x'z ?_; repeat (with_reducible (first | exact x'a _ _ | exact x'b _ | exact x'c (by assumption) | refine x'd ?_ (by assumption) | refine x'e ?_ _ | refine x'f ?_ _ | refine x'g ?_ | refine x'h ?_ ?_ _ | refine x'i ?_ _ | refine x'j ?_ | refine x'k ?_ _ | refine x'l ?_ _ _ | refine x'm ?_ | assumption | (refine x'n ?_; omega) | omega)))
        · have h1 : ¬ j < s.size := by omega
          clear e hneg hc
          obtain ⟨t, ht⟩ : ∃ t, decI (m) = t := ⟨_, rfl⟩
          have HT := Lib.hid ht
          by_cases hbig : 9 < q
          · have HR := Lib.hid (show pInt s = none by rw [HQ.out, He.out, if_neg (fun h => by have := h.1; dsimp only at this; omega)])
            clear ht
            go_wp2_with fail
            all_goals go_ret2
            all_goals exact piNone HR.out rfl (by refine x'z ?_; repeat (with_reducible (first | exact x'a _ _ | exact x'b _ | exact x'c (by assumption) | refine x'd ?_ (by assumption) | refine x'e ?_ _ | refine x'f ?_ _ | refine x'g ?_ | refine x'h ?_ ?_ _ | refine x'i ?_ _ | refine x'j ?_ | refine x'k ?_ _ | refine x'l ?_ _ _ | refine x'm ?_ | assumption | (refine x'n ?_; omega) | omega)))
          · by_cases hlen : 10 < s.size
            · have HR := Lib.hid (show pInt s = none by rw [HQ.out, if_neg (fun h => by have := h.2.1; omega)])
              clear ht
              go_wp2_with fail
              all_goals go_ret2
              all_goals exact piNone HR.out rfl (by refine x'z ?_; repeat (with_reducible (first | exact x'a _ _ | exact x'b _ | exact x'c (by assumption) | refine x'd ?_ (by assumption) | refine x'e ?_ _ | refine x'f ?_ _ | refine x'g ?_ | refine x'h ?_ ?_ _ | refine x'i ?_ _ | refine x'j ?_ | refine x'k ?_ _ | refine x'l ?_ _ _ | refine x'm ?_ | assumption | (refine x'n ?_; omega) | omega)))
            · by_cases hts : t = s
              · have HR := Lib.hid (show pInt s = some (m) by rw [HQ.out, He.out, HZ.out, if_pos ⟨by dsimp only; omega, by omega, ht.trans hts⟩])
                have q1 := str_beqt hts
                have q2 := str_bnet hts
                clear hts ht
                go_wp2_with (go_at_call 169; refine (specFormatInt_any (by omega) (by omega)).mono ?_; rintro e w2 ⟨rfl, hx2⟩; rw [HT.out])
                all_goals go_ret2
                all_goals exact piSome HR.out rfl (by refine x'z ?_; repeat (with_reducible (first | exact x'a _ _ | exact x'b _ | exact x'c (by assumption) | refine x'd ?_ (by assumption) | refine x'e ?_ _ | refine x'f ?_ _ | refine x'g ?_ | refine x'h ?_ ?_ _ | refine x'i ?_ _ | refine x'j ?_ | refine x'k ?_ _ | refine x'l ?_ _ _ | refine x'm ?_ | assumption | (refine x'n ?_; omega) | omega)))
              · have HR := Lib.hid (show pInt s = none by rw [HQ.out, HZ.out, if_neg (fun h => hts (ht.symm.trans h.2.2))])
                have q1 := str_beqf hts
                have q2 := str_bnef hts
                clear hts ht
                go_wp2_with (go_at_call 169; refine (specFormatInt_any (by omega) (by omega)).mono ?_; rintro e w2 ⟨rfl, hx2⟩; rw [HT.out])
                all_goals go_ret2
                all_goals exact piNone HR.out rfl (by refine x'z ?_; repeat (with_reducible (first | exact x'a _ _ | exact x'b _ | exact x'c (by assumption) | refine x'd ?_ (by assumption) | refine x'e ?_ _ | refine x'f ?_ _ | refine x'g ?_ | refine x'h ?_ ?_ _ | refine x'i ?_ _ | refine x'j ?_ | refine x'k ?_ _ | refine x'l ?_ _ _ | refine x'm ?_ | assumption | (refine x'n ?_; omega) | omega)))
end Go.Proofs.Ytfigcfajkilhiaa

/- Relations read from text: the reference's way. -/
namespace Go.Proofs.Ytfigcfajkilhiaa
open Go.RowKit
def gInt (v : ByteArray) : Int := (pInt v).getD 0
theorem gInt_bd (v : ByteArray) : -1000000000 < gInt v ∧ gInt v < 1000000000 := pIntG_bd v
theorem rowS_len (s : ByteArray) : (rowS s).length ≤ s.size + 1 := by
  unfold rowS
  split
  · rw [List.length_map]
    refine Nat.le_trans (splB_length 44 _) ?_
    rw [ByteArray.size_extract]
    omega
  · simp
theorem mapd_step {α β : Type} {f : α → β} {xs : List α} {acc l : List β} {k : Nat} (h : k < xs.length) (e : acc ++ (xs.drop k).map f = l) : (acc ++ [f xs[k]]) ++ (xs.drop (k + 1)).map f = l := by
  rw [← e, List.drop_eq_getElem_cons h, List.map_cons, List.append_assoc, List.singleton_append]
theorem mapd_end {α β : Type} {f : α → β} {xs : List α} {acc l : List β} {k : Nat} (h : ¬ k < xs.length) (e : acc ++ (xs.drop k).map f = l) : acc = l := by
  rw [List.drop_eq_nil_of_le (by omega)] at e
  simpa using e
set_option maxRecDepth 100000 in
set_option maxHeartbeats 16000000 in
theorem specParseRelation_any {s : ByteArray} {w : World} (hs : s.size ≤ 1048576) : Calls Try.prog 56 #[.string s] w (RelOut (pRel s) w) := by
  have hpos := splB_pos 58 s
  obtain ⟨p, hp⟩ : ∃ p, (splB 58 s).getD 0 ⟨#[]⟩ = p := ⟨_, rfl⟩
  have HP := Lib.hid hp
  have hps : p.size ≤ s.size := by
    rw [← hp, show (splB 58 s).getD 0 ⟨#[]⟩ = (splB 58 s)[0] by simp [List.getD_eq_getElem?_getD, hpos]]
    exact splB_piece (List.getElem_mem hpos)
  obtain ⟨ws, hws⟩ : ∃ ws, splB 58 s = ws := ⟨_, rfl⟩
  have HW := Lib.hid hws
  have HSR := Lib.hid (show sRows s = (if ws.length = 2 ∧ (ws.getD 1 ⟨#[]⟩).size ≠ 0 then (splB 32 (ws.getD 1 ⟨#[]⟩)).map rowS else []) by unfold sRows; rw [hws])
  rw [hws] at hpos HP
  have hw58 : ws.length ≤ s.size + 1 := by rw [← hws]; exact splB_length 58 s
  obtain ⟨a, ha⟩ : ∃ a, (pInt p).getD 0 = a := ⟨_, rfl⟩
  obtain ⟨tb, htb⟩ : ∃ t, (pInt p).isSome = t := ⟨_, rfl⟩
  have hab := pIntG_bd p
  rw [ha] at hab
  have HA := Lib.hid ha
  have HTB := Lib.hid htb
  have HE := Lib.hid (show pRel s = finR (a, sRows s) s by
    rw [← pRelS_eq]
    unfold pRelS
    rw [hws, HP.out, ha])
  clear hp hws ha htb
  go_enter Try.func56, Try.ntmps56
  go_upto_region 1 with fail
  refine wp_name ?_
  intro W hW
  have xW : ∃ y, W = ext w y := by rw [hW.out]; exact (by refine x'z ?_; repeat (with_reducible (first | exact x'a _ _ | exact x'b _ | exact x'c (by assumption) | refine x'd ?_ (by assumption) | refine x'e ?_ _ | refine x'f ?_ _ | refine x'g ?_ | refine x'h ?_ ?_ _ | refine x'i ?_ _ | refine x'j ?_ | refine x'k ?_ _ | refine x'l ?_ _ _ | refine x'm ?_ | assumption | (refine x'n ?_; omega) | omega)))
  have BW0 : BoxAt W (w.heap.size) #[.int .i64 0, .slice none 0 0] := by rw [hW.out]; refine ⟨?_, fun j => ?_, fun j => ?_⟩ <;> go_simp
  obtain ⟨lW0, bW0, fW0⟩ := BW0
  have cW0_0 : W.cell? ⟨w.heap.size, 0, none⟩ = some (.int .i64 0) := bW0 0
  have cW0_1 : W.cell? ⟨w.heap.size, 1, none⟩ = some (.slice none 0 0) := bW0 1
  clear hW
  have RW : BoxAt W w.heap.size #[.int .i64 0, .slice none 0 0] := ⟨lW0, bW0, fW0⟩
  clear bW0 fW0 cW0_0 cW0_1
  go_wp2_with fail
  refine (l5Cut_m 58 58 (by omega) (by decide)).mono ?_
  rintro e w1 ⟨vw, Fw, rfl, hx1, hSw, hFw⟩
  rw [HW.out] at hSw
  obtain ⟨A1, c1, rfl, _, _, r1⟩ := hSw.view sS_v
  have hx01 := trans_ext xW hx1
  have R1 := RW.toExt hx1
  have l1w : w.heap.size < w1.heap.size := R1.1
  clear hSw hFw RW lW0 hx1 xW
  go_upto_region 3 with fail
  refine wp_name ?_
  intro W2 hW2
  have x2 : ∃ y, W2 = ext w1 y := by rw [hW2.out]; exact (by refine x'z ?_; repeat (with_reducible (first | exact x'a _ _ | exact x'b _ | exact x'c (by assumption) | refine x'd ?_ (by assumption) | refine x'e ?_ _ | refine x'f ?_ _ | refine x'g ?_ | refine x'h ?_ ?_ _ | refine x'i ?_ _ | refine x'j ?_ | refine x'k ?_ _ | refine x'l ?_ _ _ | refine x'm ?_ | assumption | (refine x'n ?_; omega) | omega)))
  have B2 : BoxAt W2 w1.heap.size #[.int .i64 0, .slice none 0 0] := by rw [hW2.out]; exact (by repeat (with_reducible (first | assumption | exact BoxAt.new _ _ _ | apply BoxAt.set2 | refine BoxAt.set2' ?_ (by omega) | apply BoxAt.setP0 | apply BoxAt.setP1 | refine BoxAt.setO ?_ (by omega) | refine BoxAt.alloc ?_ _ | refine BoxAt.drew ?_ | refine BoxAt.toExt ?_ (by assumption))))
  obtain ⟨b7, q7⟩ : ∃ b, w1.heap.size = b := ⟨_, rfl⟩
  have h71 : w1.heap.size ≤ b7 := by omega
  have hb7 : w.heap.size < b7 := by omega
  rw [q7] at B2 ⊢
  have r2 := r1.toExt x2
  have R2 := R1.toExt x2
  obtain ⟨b1, o1, rfl, hb1, hc1⟩ := r2.atS1 hpos HP.out
  clear hW2 q7 R1
  go_upto_region 4 with (go_at_call 139; refine (specParseInt_any (by omega)).mono ?_; unfold PiRes; rintro e w3 ⟨rfl, hx3⟩; rw [HA.out, HTB.out]; have B3 := B2.toExt hx3; obtain ⟨l3, k3, k3', f3⟩ := bx2 B3)
  refine wp_name ?_
  intro W4 hW4
  have B7 : BoxAt W4 b7 #[.int .i64 a, .slice none 0 0] := by rw [hW4.out]; exact B3.setP0
  have x24 : Chg [b7] W2 W4 := by rw [hW4.out]; exact (Chg.ofExt (F := [b7]) hx3).setCell (.inl (by simp)) _
  have x14 : ∃ y, W4 = ext w1 y := x24.isExt x2 (by simp; omega)
  have hx04 := trans_ext hx01 x14
  have r4 := r1.toExt x14
  have R4 := R2.chg x24 (by simp; omega)
  have hb7w : b7 < W4.heap.size := B7.1
  clear hW4 B2 B3 l3 k3 k3' f3 hb1 hc1 r1 r2 R2 x2 hx3 x24
  by_cases hl : ws.length = 2
  · have hs1 : 1 ≤ s.size := by omega
    have q1 : ((ws.length : Int) == 2) = true := by simp [hl]
    have h2w : 1 < ws.length := by omega
    obtain ⟨p2, hp2⟩ : ∃ p, ws.getD 1 ⟨#[]⟩ = p := ⟨_, rfl⟩
    have hps2 : p2.size ≤ s.size := by
      rw [← hp2, show ws.getD 1 ⟨#[]⟩ = ws[1] by simp [List.getD_eq_getElem?_getD, h2w]]
      have := splB_piece (c := 58) (s := s) (p := ws[1]) (by rw [HW.out]; exact List.getElem_mem h2w)
      exact this
    have HP2 := Lib.hid hp2
    obtain ⟨b1', o1', e1, hb1, hc1⟩ := r4.atS h2w
    injection e1 with e1
    injection e1 with e1 e2
    subst e1 e2
    rw [show ws[1] = p2 by rw [← HP2.out]; simp [List.getD_eq_getElem?_getD, h2w]] at hc1
    clear hp2
    by_cases hz : p2.size = 0
    · have HROWS := Lib.hid (show sRows s = [] by rw [HSR.out, HP2.out, if_neg (fun h => h.2 hz)])
      have z1 := isEmpty_yes hz
      have z2 : (p2.toList != (ByteArray.mk #[]).toList) = false := str_bnet (bl_inj (size_zero hz))
      have z3 : (p2.toList == (ByteArray.mk #[]).toList) = true := str_beqt (bl_inj (size_zero hz))
      clear hz hl
      go_upto_region 18 with fail
      clear z1 z2 z3 hb1 hc1 q1
      have HE3 := Lib.hid (show pRel s = finR (a, []) s by rw [HE.out]; rw [show sRows s = [] from HROWS.out])
      have HS : Hid (SV 48 1 sRow W4 (.slice none ([] : List (List Int)).length 0) [] []) := Lib.hid SV.nil
      have HB := Lib.hid B7
      have HR5 := Lib.hid R4
      have HXr := Lib.hid hx04
      have HRN : Hid (([] : List (List Int)).length ≤ 1000000000) := Lib.hid (by simp)
      have HRL : Hid (∀ x ∈ ([] : List (List Int)), x.length ≤ 1000000000) := Lib.hid (by simp)
      have HN : Hid ([] : List Nat).Nodup := Lib.hid (by simp)
      have HFN : Hid (∀ b ∈ ([] : List Nat), w.heap.size < b) := Lib.hid (by simp)
      clear B7 R4
      have hq : sRel W4 [.int .i64 a, .slice none ([] : List (List Int)).length 0] (a, ([] : List (List Int))) [] := sRel_mk ⟨_, rfl, HS.out⟩
      have HQ := Lib.hid hq
      have HV := Lib.hid (vII_get (vRel_get (sRel_v _ _ _ hq)).2).2
      obtain ⟨l7, k7, k7', f7⟩ := bx2 HB.out
      obtain ⟨l5, k5, k5', f5⟩ := bx2 HR5.out
      clear hq
      obtain ⟨t, ht⟩ : ∃ t, fmtR (a, ([] : List (List Int))) = t := ⟨_, rfl⟩
      have HT := Lib.hid ht
      by_cases hts : t = s
      · have q8 := str_bnet hts
        have q9 := str_beqt hts
        by_cases hs0 : s.size = 0
        · first
            | (exfalso; omega)
            | (have HZ := Lib.hid (show pRel s = none by rw [HE3.out]; unfold finR; rw [if_neg (fun h => h.2 hs0)])
               have z1 := isEmpty_yes hs0
               have z2 : (s.toList == (ByteArray.mk #[]).toList) = true := str_beqt (bl_inj (size_zero hs0))
               clear ht hts
               go_wp2_with (go_at_call 86; refine (specFormatRelation_w HRN.out HRL.out HV.out).mono ?_; rintro e w8 ⟨rfl, hx8⟩; rw [HT.out]; obtain ⟨l8, k8, k8', f8⟩ := bx2 (HB.out.toExt hx8); obtain ⟨l9, k9, k9', f9⟩ := bx2 (HR5.out.toExt hx8))
               have hX := HXr.out
               refine bodyPost_ret (v := .tuple #[.agg #[.int .i64 0, .slice none 0 0], .bool false]) (by simp [results, Try.results56, go_sem, *]) rfl (relOut_none HZ.out rfl (by refine x'z ?_; repeat (with_reducible (first | exact x'a _ _ | exact x'b _ | exact x'c (by assumption) | refine x'd ?_ (by assumption) | refine x'e ?_ _ | refine x'f ?_ _ | refine x'g ?_ | refine x'h ?_ ?_ _ | refine x'i ?_ _ | refine x'j ?_ | refine x'k ?_ _ | refine x'l ?_ _ _ | refine x'm ?_ | assumption | (refine x'n ?_; omega) | omega)))))
        · have z1 := isEmpty_no (s := s) (by omega)
          have z2 := toList_empty (s := s) (by omega)
          have HE4 := Lib.hid (show pRel s = some (a, ([] : List (List Int))) by rw [HE3.out]; unfold finR; rw [if_pos ⟨ht.trans hts, hs0⟩])
          clear ht hts hs0
          go_wp2_with (go_at_call 86; refine (specFormatRelation_w HRN.out HRL.out HV.out).mono ?_; rintro e w8 ⟨rfl, hx8⟩; rw [HT.out]; obtain ⟨l8, k8, k8', f8⟩ := bx2 (HB.out.toExt hx8); obtain ⟨l9, k9, k9', f9⟩ := bx2 (HR5.out.toExt hx8))
          have hX := HXr.out
          have hQ8 : sRel w8 [.int .i64 a, .slice none ([] : List (List Int)).length 0] (a, ([] : List (List Int))) [] := OD.toExt HQ.out hx8
          refine bodyPost_ret (v := .tuple #[.agg #[.int .i64 a, .slice none ([] : List (List Int)).length 0], .bool true]) (by simp [results, Try.results56, go_sem, *]) rfl ⟨_, _, [], by rw [HE4.out]; rfl, (by refine x'z ?_; repeat (with_reducible (first | exact x'a _ _ | exact x'b _ | exact x'c (by assumption) | refine x'd ?_ (by assumption) | refine x'e ?_ _ | refine x'f ?_ _ | refine x'g ?_ | refine x'h ?_ ?_ _ | refine x'i ?_ _ | refine x'j ?_ | refine x'k ?_ _ | refine x'l ?_ _ _ | refine x'm ?_ | assumption | (refine x'n ?_; omega) | omega))), by rw [HE4.out]; exact OD.chg (G := [w.heap.size]) hQ8 (by repeat (with_reducible (first | exact Chg.refl _ _ | refine Chg.trans0 ?_ (by assumption) | refine Chg.extS ?_ _ | refine Chg.alloc ?_ _ | refine Chg.drew ?_ | refine Chg.setCell ?_ (.inl (by simp)) _))) (fun b hb h => by have := HFN.out b hb; rw [List.mem_singleton.1 h] at this; omega), HN.out, fun b hb => Nat.le_of_lt (HFN.out b hb)⟩
      · have q8 := str_bnef hts
        have q9 := str_beqf hts
        have HZ := Lib.hid (show pRel s = none by rw [HE3.out]; unfold finR; rw [if_neg (fun h => hts (ht.symm.trans h.1))])
        clear ht hts
        go_wp2_with (go_at_call 86; refine (specFormatRelation_w HRN.out HRL.out HV.out).mono ?_; rintro e w8 ⟨rfl, hx8⟩; rw [HT.out]; obtain ⟨l8, k8, k8', f8⟩ := bx2 (HB.out.toExt hx8); obtain ⟨l9, k9, k9', f9⟩ := bx2 (HR5.out.toExt hx8))
        have hX := HXr.out
        refine bodyPost_ret (v := .tuple #[.agg #[.int .i64 0, .slice none 0 0], .bool false]) (by simp [results, Try.results56, go_sem, *]) rfl (relOut_none HZ.out rfl (by refine x'z ?_; repeat (with_reducible (first | exact x'a _ _ | exact x'b _ | exact x'c (by assumption) | refine x'd ?_ (by assumption) | refine x'e ?_ _ | refine x'f ?_ _ | refine x'g ?_ | refine x'h ?_ ?_ _ | refine x'i ?_ _ | refine x'j ?_ | refine x'k ?_ _ | refine x'l ?_ _ _ | refine x'm ?_ | assumption | (refine x'n ?_; omega) | omega))))
    · have z1 := isEmpty_no (s := p2) (by omega)
      have z2 := toList_empty (s := p2) (by omega)
      have z3 : (p2.toList != (ByteArray.mk #[]).toList) = true := by rw [bne, z2]; rfl
      obtain ⟨xs, hxs⟩ : ∃ xs, splB 32 p2 = xs := ⟨_, rfl⟩
      have HROWS := Lib.hid (show sRows s = xs.map rowS by rw [HSR.out, HP2.out, if_pos ⟨hl, hz⟩, hxs])
      clear hz hl
      go_wp2_with fail
      refine (l5Cut_m 32 32 (by omega) (by decide)).mono ?_
      rintro e w4 ⟨vx, Fx, rfl, hx4, hSx, hFx⟩
      have hxl : xs.length ≤ p2.size + 1 := by rw [← hxs]; exact splB_length 32 p2
      have hxp : ∀ x ∈ xs, x.size ≤ p2.size := by rw [← hxs]; exact fun x hx => splB_piece hx
      rw [hxs] at hSx
      obtain ⟨Ax, cx, rfl, _, _⟩ := hSx.form
      have B74 := B7.toExt hx4
      have HR4 := Lib.hid (R4.toExt hx4)
      have HX4 := Lib.hid (trans_ext hx04 hx4)
      have hz4 := size_of_ext hx4
      have h7x : ∀ b ∈ Fx, b ∉ [b7] := fun b hb h => by have := hFx b hb; rw [List.mem_singleton.1 h] at this; omega
      have HSx := Lib.hid hSx
      have H7x := Lib.hid h7x
      have HXP := Lib.hid hxp
      have HB74 := Lib.hid B74
      have h74 : b7 < w4.heap.size := B74.1
      clear hxs hxp hSx hFx h7x B7 B74 R4 r4 hb1 hc1 hx04 hx4 z1 z2 z3 x14 hx01
      go_wp2_with fail
      go_loopw [7] (fun i wr => ∃ (k : Nat) (rows : List (List Int)) (A : Option Addr) (c : Nat) (F : List Nat), i = .int .i64 k ∧ k ≤ xs.length ∧ BoxAt wr b7 #[.int .i64 a, .slice A rows.length c] ∧ SV 48 1 sRow wr (.slice A rows.length c) rows F ∧ F.Nodup ∧ (∀ b ∈ F, w4.heap.size ≤ b) ∧ Chg [b7] w4 wr ∧ rows.length ≤ k ∧ (∀ x ∈ rows, x.length ≤ 1000000000) ∧ Hid (rows ++ (xs.drop k).map rowS = xs.map rowS)) (fun i _ => xs.length - (intOf i).toNat)
      case atStart => exact ⟨0, [], none, 0, [], rfl, by omega, HB74.out, SV.nil, by simp, by simp, Chg.refl _ _, by simp, by simp, Lib.hid (by simp)⟩
      case round =>
        obtain ⟨k, rows, A, c, F, rfl, hk, hB, hS, hN, hF, hC, hrl, hrx, Hj⟩ := hrel
        have HS := Lib.hid hS
        have HSl := Lib.hid hS.lt
        have HN := Lib.hid hN
        have HF := Lib.hid hF
        have HC := Lib.hid hC
        have HRL := Lib.hid hrx
        have HB := Lib.hid hB
        have h7r : b7 < wr.heap.size := hB.1
        have hzc := hC.size
        by_cases hlt : k < xs.length
        · obtain ⟨_, _, e5, _, _, rx⟩ := (HSx.out.chg hC H7x.out).view sS_v
          injection e5 with e5 _ e6
          subst e5 e6
          obtain ⟨bx, ox, rfl, hbx, hcx⟩ := rx.atS hlt
          have ej := mapd_step hlt Hj.out
          obtain ⟨wd, hwd⟩ : ∃ x, xs[k] = x := ⟨_, rfl⟩
          have hwdp : wd.size ≤ p2.size := by rw [← hwd]; exact HXP.out _ (List.getElem_mem hlt)
          rw [hwd] at ej hcx
          have hrw := rowS_len wd
          clear hwd hS hN hF hC hrx hB rx
          have hE0 := SV.empty (α := Int) (te := 3) (size := 1) (E := sI) wr
          by_cases h2 : 2 < wd.size
          · have HRW := Lib.hid (show rowS wd = (splB 44 (wd.extract 1 (wd.size - 1))).map gInt by unfold rowS; rw [if_pos h2]; rfl)
            have hes : (wd.extract 1 (wd.size - 1)).size ≤ 1000000000 := by rw [ByteArray.size_extract]; omega
            have i6 : IntKind.i64.wrap ((wd.size : Int) - 1) = ((wd.size - 1 : Nat) : Int) := by rw [IntKind.wrap_i64]; omega
            have i0 : (0 : Int) ≤ 1 := by omega
            have i1 : (1 : Int) ≤ ((wd.size - 1 : Nat) : Int) := by omega
            have i2 : ((wd.size - 1 : Nat) : Int) ≤ (wd.size : Int) := by omega
            have i3 : 1 ≤ wd.size - 1 := by omega
            have i4 : wd.size - 1 ≤ wd.size := by omega
            obtain ⟨ys, hys⟩ : ∃ ys, splB 44 (wd.extract 1 (wd.size - 1)) = ys := ⟨_, rfl⟩
            have HYS := Lib.hid hys
            have hyl : ys.length ≤ 1048577 := by rw [← hys]; exact Nat.le_trans (splB_length 44 _) (by rw [ByteArray.size_extract]; omega)
            have HYP : Hid (∀ y ∈ ys, y.size ≤ 1000000000) := Lib.hid (by rw [← hys]; exact fun y hy => Nat.le_trans (splB_piece hy) hes)
            rw [hys] at HRW
            have HEJ := Lib.hid ej
            clear hys ej
            go_upto_region 11 with fail
            refine wp_name ?_
            intro W5 hW5
            have x5 : ∃ y, W5 = ext wr y := by rw [hW5.out]; exact (by refine x'z ?_; repeat (with_reducible (first | exact x'a _ _ | exact x'b _ | exact x'c (by assumption) | refine x'd ?_ (by assumption) | refine x'e ?_ _ | refine x'f ?_ _ | refine x'g ?_ | refine x'h ?_ ?_ _ | refine x'i ?_ _ | refine x'j ?_ | refine x'k ?_ _ | refine x'l ?_ _ _ | refine x'm ?_ | assumption | (refine x'n ?_; omega) | omega)))
            have E5 : SV 3 1 sI W5 (.slice (some ⟨wr.heap.size, 0, none⟩) 0 0) [] [wr.heap.size] := by rw [hW5.out]; exact hE0
            have hcx5 := cellW x5 hbx hcx
            have hbx5 := ltW x5 hbx
            have hwr5 : wr.heap.size < W5.heap.size := E5.lt _ (by simp)
            have HBB := Lib.hid (HB.out.toExt x5)
            have HSB := Lib.hid (HS.out.toExt x5)
            have HCB := Lib.hid (HC.out.trans0 x5)
            obtain ⟨b8, q8⟩ : ∃ b, wr.heap.size = b := ⟨_, rfl⟩
            rw [q8] at E5 HSl h7r hzc hwr5 ⊢
            clear hW5 hE0 hcx hbx q8 HB HS HC x5
            go_region_held3 (fun w' => (∀ a : Addr, a.block < W5.heap.size → w'.cell? a = W5.cell? a) ∧ ∃ y, w' = ext W5 y) (first | exact heldE (by refine x'z ?_; repeat (with_reducible (first | exact x'a _ _ | exact x'b _ | exact x'c (by assumption) | refine x'd ?_ (by assumption) | refine x'e ?_ _ | refine x'f ?_ _ | refine x'g ?_ | refine x'h ?_ ?_ _ | refine x'i ?_ _ | refine x'j ?_ | refine x'k ?_ _ | refine x'l ?_ _ _ | refine x'm ?_ | assumption | (refine x'n ?_; omega) | omega)))) ((go_at_call 98; refine (l5Cut_m 44 44 hes (by decide)).mono ?_; rintro e w6 ⟨vy, Fy, rfl, hx6, hSy, hFy⟩; rw [HYS.out] at hSy; obtain ⟨Ay, cy, rfl, _, _⟩ := hSy.form))
            have x56 : ∃ y, w6 = ext W5 y := trans_ext (drew_ext W5) hx6
            have E6 := E5.toExt x56
            have hz6 := size_of_ext x56
            have H8y : Hid (∀ b ∈ Fy, b ∉ [b8]) := Lib.hid (fun b hb h => by have := hFy b hb; rw [List.mem_singleton.1 h, show W5.drew.heap.size = W5.heap.size from rfl] at this; omega)
            have HSy := Lib.hid hSy
            have HX56 := Lib.hid (Chg.ofExt (F := [b8]) x56)
            clear E5 hcx5 hbx5 hSy hFy hx6 x56
            go_wp2_with fail
            go_loopw [8, 10] (fun v i vr => ∃ (j : Nat) (ds : List Int) (G : List Nat), i = .int .i64 j ∧ j ≤ ys.length ∧ SV 3 1 sI vr v ds G ∧ (∀ b ∈ G, b = b8 ∨ w6.heap.size ≤ b) ∧ Chg [b8] w6 vr ∧ ds.length ≤ j ∧ Hid (ds ++ (ys.drop j).map gInt = ys.map gInt)) (fun _ i _ => ys.length - (intOf i).toNat)
            case atStart => exact ⟨0, [], [b8], rfl, by omega, E6, by simp, Chg.refl _ _, by simp, Lib.hid (by simp)⟩
            case round =>
              clear E6
              obtain ⟨j, ds, G, rfl, hj, hX, hG, hCv, hdl, Hd⟩ := hrel
              have HX := Lib.hid hX
              have HG := Lib.hid hG
              have HCv := Lib.hid hCv
              have hzv := hCv.size
              clear hX hG
              by_cases hjl : j < ys.length
              · obtain ⟨_, _, ey, _, _, ry⟩ := (HSy.out.chg hCv H8y.out).view sS_v
                injection ey with ey _ ey2
                subst ey ey2
                obtain ⟨by_, oy, rfl, hby, hcy⟩ := ry.atS hjl
                have ed := mapd_step hjl Hd.out
                have hys9 := HYP.out _ (List.getElem_mem hjl)
                obtain ⟨u, hu⟩ : ∃ u, ys[j] = u := ⟨_, rfl⟩
                rw [hu] at ed hcy hys9
                obtain ⟨z, hz⟩ : ∃ z, gInt u = z := ⟨_, rfl⟩
                obtain ⟨tz, htz⟩ : ∃ t, (pInt u).isSome = t := ⟨_, rfl⟩
                have HZ1 := Lib.hid (show (pInt u).getD 0 = z from hz)
                have HZ2 := Lib.hid htz
                rw [hz] at ed
                have HED := Lib.hid ed
                clear ed hz htz hu ry hCv
                go_wp2_with (first
                  | (go_at_call 139; refine (specParseInt_any hys9).mono ?_; unfold PiRes; rintro e w7 ⟨rfl, hx7⟩; rw [HZ1.out, HZ2.out])
                  | (at_builtin; refine wpList_app1 (E := sI) (d := z) rfl _ _ _ rfl tI rfl rfl rfl (by simp) (fun _ => ⟨rfl, rfl⟩) rfl (by simp [Value.oneCell']) (HX.out.toExt hx7) (by omega) (by omega) ?_; intro v8 w8 F8 hS8 hC8 hF8))
                have hz7 := size_of_ext hx7
                have hG8 : ∀ b ∈ F8, b = b8 ∨ w6.heap.size ≤ b := fun b hb => by
                  rcases hF8 b hb with h | h
                  · exact HG.out b h
                  · exact .inr (by omega)
                exact ⟨⟨j + 1, ds ++ [z], F8, by go_num, by omega, hS8, hG8, (HCv.out.trans0 hx7).trans hC8 (fun x hx => (HG.out x hx).imp (fun h => by simp [h]) id), by simp; omega, HED⟩, by simp [intOf]; omega⟩
              · have ed := mapd_end hjl Hd.out
                have HD := Lib.hid (show ds = rowS wd by rw [HRW.out, ed])
                have hdl2 : ds.length ≤ 1000000000 := by omega
                have HJ2 : Hid ((rows ++ [ds]) ++ (xs.drop (k + 1)).map rowS = xs.map rowS) := Lib.hid (by rw [HD.out]; exact HEJ.out)
                have HG8 : Hid (∀ b ∈ G, b8 ≤ b) := Lib.hid (fun b hb => by
                  rcases HG.out b hb with h | h <;> omega)
                have HXX := Lib.hid (HX56.out.trans hCv (fun x hx => .inl hx))
                obtain ⟨Ad, cd, rfl, _, _⟩ := HX.out.form
                clear ed Hd hCv HCv
                have hNN := nodup_more HN.out HX.out.nodup HSl.out HG8.out
                have hal2 : rows.length + 1 ≤ 2000000000 := by omega
                have h7nF : b7 ∉ F := fun h => by have := HF.out b7 h; omega
                have XX2 := HXX.out
                have B5 := HBB.out.chg XX2 (by simp; omega)
                have S5 := HSB.out.chg XX2 (fun b hb h => by have := HSl.out b hb; rw [List.mem_singleton.1 h] at this; omega)
                have HC5 := Lib.hid (HCB.out.trans XX2 (fun x hx => .inr (by rw [List.mem_singleton.1 hx]; omega)))
                have hzw4 := HC5.out.size
                obtain ⟨l5, k5, k5', f5⟩ := bx2 B5
                clear XX2
                go_wp2_with (at_builtin; refine wpList_appN (E := sRow) (d := ds) (G := G) rfl _ _ _ rfl tIIr rfl rfl rfl (by simp) ⟨_, rfl, HX.out⟩ rfl (by simp [Value.oneCell']) S5 hNN hal2 (by omega) ?_; intro v6 w6 F6 hS6 hC6 hN6 hF6; obtain ⟨A6, c6, rfl, _, _⟩ := hS6.form; have B6 := B5.chg hC6 h7nF; obtain ⟨l6, k6, k6', f6⟩ := bx2 B6)
                have hF6n : ∀ b ∈ F6, w4.heap.size ≤ b := fun b hb => by
                  rcases hF6 b hb with h | h | h
                  · exact HF.out b h
                  · have := HG8.out b h; omega
                  · omega
                have hCa := (HC5.out.trans hC6 (fun x hx => .inr (HF.out x hx))).setCell (p := ⟨b7, 1, none⟩) (.inl (by simp)) (.slice A6 (rows ++ [ds]).length c6)
                have hSf := hS6.chg ((Chg.refl [b7] w6).setCell (p := ⟨b7, 1, none⟩) (.inl (by simp)) (.slice A6 (rows ++ [ds]).length c6)) (fun b hb h => by have := hF6n b hb; rw [List.mem_singleton.1 h] at this; omega)
                have hBf := B6.setP1 (v' := .slice A6 (rows ++ [ds]).length c6)
                have HRf : ∀ x ∈ rows ++ [ds], x.length ≤ 1000000000 := fun x hx => by
                  rcases List.mem_append.1 hx with h | h
                  · exact HRL.out x h
                  · rw [List.mem_singleton.1 h]; first | omega | simp
                rw [show rows.length + 1 = (rows ++ [ds]).length by simp]
                exact ⟨⟨k + 1, rows ++ [ds], A6, c6, F6, by go_num, by omega, hBf, hSf, hN6, hF6n, hCa, by simp; omega, HRf, HJ2⟩, by simp [intOf]; omega⟩
          · have HJ2 : Hid ((rows ++ [[]]) ++ (xs.drop (k + 1)).map rowS = xs.map rowS) := Lib.hid (by rw [show ([] : List Int) = rowS wd by unfold rowS; rw [if_neg h2]]; exact ej)
            clear ej
            go_upto_region 17 with fail
            refine wp_name ?_
            intro W5 hW5
            have x5 : ∃ y, W5 = ext wr y := by rw [hW5.out]; exact (by refine x'z ?_; repeat (with_reducible (first | exact x'a _ _ | exact x'b _ | exact x'c (by assumption) | refine x'd ?_ (by assumption) | refine x'e ?_ _ | refine x'f ?_ _ | refine x'g ?_ | refine x'h ?_ ?_ _ | refine x'i ?_ _ | refine x'j ?_ | refine x'k ?_ _ | refine x'l ?_ _ _ | refine x'm ?_ | assumption | (refine x'n ?_; omega) | omega)))
            have E5 : SV 3 1 sI W5 (.slice (some ⟨wr.heap.size, 0, none⟩) 0 0) [] [wr.heap.size] := by rw [hW5.out]; exact hE0
            have HBB := Lib.hid (HB.out.toExt x5)
            have HSB := Lib.hid (HS.out.toExt x5)
            have HCB := Lib.hid (HC.out.trans0 x5)
            obtain ⟨b8, q8⟩ : ∃ b, wr.heap.size = b := ⟨_, rfl⟩
            rw [q8] at E5 HSl h7r hzc ⊢
            have HX := Lib.hid E5
            have HG8 : Hid (∀ b ∈ [b8], b8 ≤ b) := Lib.hid (by simp)
            have HXX := Lib.hid (Chg.refl [b8] W5)
            clear hW5 hE0 hcx hbx q8 HB HS HC x5 E5
            have hNN := nodup_more HN.out HX.out.nodup HSl.out HG8.out
            have hal2 : rows.length + 1 ≤ 2000000000 := by omega
            have h7nF : b7 ∉ F := fun h => by have := HF.out b7 h; omega
            have XX2 := HXX.out
            have B5 := HBB.out.chg XX2 (by simp; omega)
            have S5 := HSB.out.chg XX2 (fun b hb h => by have := HSl.out b hb; rw [List.mem_singleton.1 h] at this; omega)
            have HC5 := Lib.hid (HCB.out.trans XX2 (fun x hx => .inr (by rw [List.mem_singleton.1 hx]; omega)))
            have hzw4 := HC5.out.size
            obtain ⟨l5, k5, k5', f5⟩ := bx2 B5
            clear XX2
            go_wp2_with (at_builtin; refine wpList_appN (E := sRow) (d := ([] : List Int)) (G := [b8]) rfl _ _ _ rfl tIIr rfl rfl rfl (by simp) ⟨_, rfl, HX.out⟩ rfl (by simp [Value.oneCell']) S5 hNN hal2 (by omega) ?_; intro v6 w6 F6 hS6 hC6 hN6 hF6; obtain ⟨A6, c6, rfl, _, _⟩ := hS6.form; have B6 := B5.chg hC6 h7nF; obtain ⟨l6, k6, k6', f6⟩ := bx2 B6)
            have hF6n : ∀ b ∈ F6, w4.heap.size ≤ b := fun b hb => by
              rcases hF6 b hb with h | h | h
              · exact HF.out b h
              · have := HG8.out b h; omega
              · omega
            have hCa := (HC5.out.trans hC6 (fun x hx => .inr (HF.out x hx))).setCell (p := ⟨b7, 1, none⟩) (.inl (by simp)) (.slice A6 (rows ++ [([] : List Int)]).length c6)
            have hSf := hS6.chg ((Chg.refl [b7] w6).setCell (p := ⟨b7, 1, none⟩) (.inl (by simp)) (.slice A6 (rows ++ [([] : List Int)]).length c6)) (fun b hb h => by have := hF6n b hb; rw [List.mem_singleton.1 h] at this; omega)
            have hBf := B6.setP1 (v' := .slice A6 (rows ++ [([] : List Int)]).length c6)
            have HRf : ∀ x ∈ rows ++ [([] : List Int)], x.length ≤ 1000000000 := fun x hx => by
              rcases List.mem_append.1 hx with h | h
              · exact HRL.out x h
              · rw [List.mem_singleton.1 h]; first | omega | simp
            rw [show rows.length + 1 = (rows ++ [([] : List Int)]).length by simp]
            exact ⟨⟨k + 1, rows ++ [([] : List Int)], A6, c6, F6, by go_num, by omega, hBf, hSf, hN6, hF6n, hCa, by simp; omega, HRf, HJ2⟩, by simp [intOf]; omega⟩
        · have ej := mapd_end hlt Hj.out
          have HE3 := Lib.hid (show pRel s = finR (a, rows) s by rw [HE.out, HROWS.out, ← ej])
          have HXr := Lib.hid (hC.isExt HX4.out (by simp; omega))
          have HR5 := Lib.hid (HR4.out.chg hC (by simp; omega))
          have HRN : Hid (rows.length ≤ 1000000000) := Lib.hid (by omega)
          have hz4w := size_of_ext HX4.out
          have HFN : Hid (∀ b ∈ F, w.heap.size < b) := Lib.hid (fun b hb => by have := HF.out b hb; omega)
          clear ej hS hN hF hC hrx hB
          have hq : sRel wr [.int .i64 a, .slice A rows.length c] (a, rows) F := sRel_mk ⟨_, rfl, HS.out⟩
          have HQ := Lib.hid hq
          have HV := Lib.hid (vII_get (vRel_get (sRel_v _ _ _ hq)).2).2
          obtain ⟨l7, k7, k7', f7⟩ := bx2 HB.out
          obtain ⟨l5, k5, k5', f5⟩ := bx2 HR5.out
          clear hq
          obtain ⟨t, ht⟩ : ∃ t, fmtR (a, rows) = t := ⟨_, rfl⟩
          have HT := Lib.hid ht
          by_cases hts : t = s
          · have q8 := str_bnet hts
            have q9 := str_beqt hts
            by_cases hs0 : s.size = 0
            · first
                | (exfalso; omega)
                | (have HZ := Lib.hid (show pRel s = none by rw [HE3.out]; unfold finR; rw [if_neg (fun h => h.2 hs0)])
                   have z1 := isEmpty_yes hs0
                   have z2 : (s.toList == (ByteArray.mk #[]).toList) = true := str_beqt (bl_inj (size_zero hs0))
                   clear ht hts
                   go_wp2_with (go_at_call 86; refine (specFormatRelation_w HRN.out HRL.out HV.out).mono ?_; rintro e w8 ⟨rfl, hx8⟩; rw [HT.out]; obtain ⟨l8, k8, k8', f8⟩ := bx2 (HB.out.toExt hx8); obtain ⟨l9, k9, k9', f9⟩ := bx2 (HR5.out.toExt hx8))
                   have hX := HXr.out
                   refine bodyPost_ret (v := .tuple #[.agg #[.int .i64 0, .slice none 0 0], .bool false]) (by simp [results, Try.results56, go_sem, *]) rfl (relOut_none HZ.out rfl (by refine x'z ?_; repeat (with_reducible (first | exact x'a _ _ | exact x'b _ | exact x'c (by assumption) | refine x'd ?_ (by assumption) | refine x'e ?_ _ | refine x'f ?_ _ | refine x'g ?_ | refine x'h ?_ ?_ _ | refine x'i ?_ _ | refine x'j ?_ | refine x'k ?_ _ | refine x'l ?_ _ _ | refine x'm ?_ | assumption | (refine x'n ?_; omega) | omega)))))
            · have z1 := isEmpty_no (s := s) (by omega)
              have z2 := toList_empty (s := s) (by omega)
              have HE4 := Lib.hid (show pRel s = some (a, rows) by rw [HE3.out]; unfold finR; rw [if_pos ⟨ht.trans hts, hs0⟩])
              clear ht hts hs0
              go_wp2_with (go_at_call 86; refine (specFormatRelation_w HRN.out HRL.out HV.out).mono ?_; rintro e w8 ⟨rfl, hx8⟩; rw [HT.out]; obtain ⟨l8, k8, k8', f8⟩ := bx2 (HB.out.toExt hx8); obtain ⟨l9, k9, k9', f9⟩ := bx2 (HR5.out.toExt hx8))
              have hX := HXr.out
              have hQ8 : sRel w8 [.int .i64 a, .slice A rows.length c] (a, rows) F := OD.toExt HQ.out hx8
              refine bodyPost_ret (v := .tuple #[.agg #[.int .i64 a, .slice A rows.length c], .bool true]) (by simp [results, Try.results56, go_sem, *]) rfl ⟨_, _, F, by rw [HE4.out]; rfl, (by refine x'z ?_; repeat (with_reducible (first | exact x'a _ _ | exact x'b _ | exact x'c (by assumption) | refine x'd ?_ (by assumption) | refine x'e ?_ _ | refine x'f ?_ _ | refine x'g ?_ | refine x'h ?_ ?_ _ | refine x'i ?_ _ | refine x'j ?_ | refine x'k ?_ _ | refine x'l ?_ _ _ | refine x'm ?_ | assumption | (refine x'n ?_; omega) | omega))), by rw [HE4.out]; exact OD.chg (G := [w.heap.size]) hQ8 (by repeat (with_reducible (first | exact Chg.refl _ _ | refine Chg.trans0 ?_ (by assumption) | refine Chg.extS ?_ _ | refine Chg.alloc ?_ _ | refine Chg.drew ?_ | refine Chg.setCell ?_ (.inl (by simp)) _))) (fun b hb h => by have := HFN.out b hb; rw [List.mem_singleton.1 h] at this; omega), HN.out, fun b hb => Nat.le_of_lt (HFN.out b hb)⟩
          · have q8 := str_bnef hts
            have q9 := str_beqf hts
            have HZ := Lib.hid (show pRel s = none by rw [HE3.out]; unfold finR; rw [if_neg (fun h => hts (ht.symm.trans h.1))])
            clear ht hts
            go_wp2_with (go_at_call 86; refine (specFormatRelation_w HRN.out HRL.out HV.out).mono ?_; rintro e w8 ⟨rfl, hx8⟩; rw [HT.out]; obtain ⟨l8, k8, k8', f8⟩ := bx2 (HB.out.toExt hx8); obtain ⟨l9, k9, k9', f9⟩ := bx2 (HR5.out.toExt hx8))
            have hX := HXr.out
            refine bodyPost_ret (v := .tuple #[.agg #[.int .i64 0, .slice none 0 0], .bool false]) (by simp [results, Try.results56, go_sem, *]) rfl (relOut_none HZ.out rfl (by refine x'z ?_; repeat (with_reducible (first | exact x'a _ _ | exact x'b _ | exact x'c (by assumption) | refine x'd ?_ (by assumption) | refine x'e ?_ _ | refine x'f ?_ _ | refine x'g ?_ | refine x'h ?_ ?_ _ | refine x'i ?_ _ | refine x'j ?_ | refine x'k ?_ _ | refine x'l ?_ _ _ | refine x'm ?_ | assumption | (refine x'n ?_; omega) | omega))))
  · have q1 : ((ws.length : Int) == 2) = false := by rw [beq_eq_false_iff_ne]; omega
    have HROWS := Lib.hid (show sRows s = [] by rw [HSR.out, if_neg (fun h => hl h.1)])
    clear hl
    go_upto_region 18 with fail
    clear q1
    have HE3 := Lib.hid (show pRel s = finR (a, []) s by rw [HE.out]; rw [show sRows s = [] from HROWS.out])
    have HS : Hid (SV 48 1 sRow W4 (.slice none ([] : List (List Int)).length 0) [] []) := Lib.hid SV.nil
    have HB := Lib.hid B7
    have HR5 := Lib.hid R4
    have HXr := Lib.hid hx04
    have HRN : Hid (([] : List (List Int)).length ≤ 1000000000) := Lib.hid (by simp)
    have HRL : Hid (∀ x ∈ ([] : List (List Int)), x.length ≤ 1000000000) := Lib.hid (by simp)
    have HN : Hid ([] : List Nat).Nodup := Lib.hid (by simp)
    have HFN : Hid (∀ b ∈ ([] : List Nat), w.heap.size < b) := Lib.hid (by simp)
    clear B7 R4
    have hq : sRel W4 [.int .i64 a, .slice none ([] : List (List Int)).length 0] (a, ([] : List (List Int))) [] := sRel_mk ⟨_, rfl, HS.out⟩
    have HQ := Lib.hid hq
    have HV := Lib.hid (vII_get (vRel_get (sRel_v _ _ _ hq)).2).2
    obtain ⟨l7, k7, k7', f7⟩ := bx2 HB.out
    obtain ⟨l5, k5, k5', f5⟩ := bx2 HR5.out
    clear hq
    obtain ⟨t, ht⟩ : ∃ t, fmtR (a, ([] : List (List Int))) = t := ⟨_, rfl⟩
    have HT := Lib.hid ht
    by_cases hts : t = s
    · have q8 := str_bnet hts
      have q9 := str_beqt hts
      by_cases hs0 : s.size = 0
      · first
          | (exfalso; omega)
          | (have HZ := Lib.hid (show pRel s = none by rw [HE3.out]; unfold finR; rw [if_neg (fun h => h.2 hs0)])
             have z1 := isEmpty_yes hs0
             have z2 : (s.toList == (ByteArray.mk #[]).toList) = true := str_beqt (bl_inj (size_zero hs0))
             clear ht hts
             go_wp2_with (go_at_call 86; refine (specFormatRelation_w HRN.out HRL.out HV.out).mono ?_; rintro e w8 ⟨rfl, hx8⟩; rw [HT.out]; obtain ⟨l8, k8, k8', f8⟩ := bx2 (HB.out.toExt hx8); obtain ⟨l9, k9, k9', f9⟩ := bx2 (HR5.out.toExt hx8))
             have hX := HXr.out
             refine bodyPost_ret (v := .tuple #[.agg #[.int .i64 0, .slice none 0 0], .bool false]) (by simp [results, Try.results56, go_sem, *]) rfl (relOut_none HZ.out rfl (by refine x'z ?_; repeat (with_reducible (first | exact x'a _ _ | exact x'b _ | exact x'c (by assumption) | refine x'd ?_ (by assumption) | refine x'e ?_ _ | refine x'f ?_ _ | refine x'g ?_ | refine x'h ?_ ?_ _ | refine x'i ?_ _ | refine x'j ?_ | refine x'k ?_ _ | refine x'l ?_ _ _ | refine x'm ?_ | assumption | (refine x'n ?_; omega) | omega)))))
      · have z1 := isEmpty_no (s := s) (by omega)
        have z2 := toList_empty (s := s) (by omega)
        have HE4 := Lib.hid (show pRel s = some (a, ([] : List (List Int))) by rw [HE3.out]; unfold finR; rw [if_pos ⟨ht.trans hts, hs0⟩])
        clear ht hts hs0
        go_wp2_with (go_at_call 86; refine (specFormatRelation_w HRN.out HRL.out HV.out).mono ?_; rintro e w8 ⟨rfl, hx8⟩; rw [HT.out]; obtain ⟨l8, k8, k8', f8⟩ := bx2 (HB.out.toExt hx8); obtain ⟨l9, k9, k9', f9⟩ := bx2 (HR5.out.toExt hx8))
        have hX := HXr.out
        have hQ8 : sRel w8 [.int .i64 a, .slice none ([] : List (List Int)).length 0] (a, ([] : List (List Int))) [] := OD.toExt HQ.out hx8
        refine bodyPost_ret (v := .tuple #[.agg #[.int .i64 a, .slice none ([] : List (List Int)).length 0], .bool true]) (by simp [results, Try.results56, go_sem, *]) rfl ⟨_, _, [], by rw [HE4.out]; rfl, (by refine x'z ?_; repeat (with_reducible (first | exact x'a _ _ | exact x'b _ | exact x'c (by assumption) | refine x'd ?_ (by assumption) | refine x'e ?_ _ | refine x'f ?_ _ | refine x'g ?_ | refine x'h ?_ ?_ _ | refine x'i ?_ _ | refine x'j ?_ | refine x'k ?_ _ | refine x'l ?_ _ _ | refine x'm ?_ | assumption | (refine x'n ?_; omega) | omega))), by rw [HE4.out]; exact OD.chg (G := [w.heap.size]) hQ8 (by repeat (with_reducible (first | exact Chg.refl _ _ | refine Chg.trans0 ?_ (by assumption) | refine Chg.extS ?_ _ | refine Chg.alloc ?_ _ | refine Chg.drew ?_ | refine Chg.setCell ?_ (.inl (by simp)) _))) (fun b hb h => by have := HFN.out b hb; rw [List.mem_singleton.1 h] at this; omega), HN.out, fun b hb => Nat.le_of_lt (HFN.out b hb)⟩
    · have q8 := str_bnef hts
      have q9 := str_beqf hts
      have HZ := Lib.hid (show pRel s = none by rw [HE3.out]; unfold finR; rw [if_neg (fun h => hts (ht.symm.trans h.1))])
      clear ht hts
      go_wp2_with (go_at_call 86; refine (specFormatRelation_w HRN.out HRL.out HV.out).mono ?_; rintro e w8 ⟨rfl, hx8⟩; rw [HT.out]; obtain ⟨l8, k8, k8', f8⟩ := bx2 (HB.out.toExt hx8); obtain ⟨l9, k9, k9', f9⟩ := bx2 (HR5.out.toExt hx8))
      have hX := HXr.out
      refine bodyPost_ret (v := .tuple #[.agg #[.int .i64 0, .slice none 0 0], .bool false]) (by simp [results, Try.results56, go_sem, *]) rfl (relOut_none HZ.out rfl (by refine x'z ?_; repeat (with_reducible (first | exact x'a _ _ | exact x'b _ | exact x'c (by assumption) | refine x'd ?_ (by assumption) | refine x'e ?_ _ | refine x'f ?_ _ | refine x'g ?_ | refine x'h ?_ ?_ _ | refine x'i ?_ _ | refine x'j ?_ | refine x'k ?_ _ | refine x'l ?_ _ _ | refine x'm ?_ | assumption | (refine x'n ?_; omega) | omega))))
end Go.Proofs.Ytfigcfajkilhiaa

/- Databases read from text: the program's way and the reference's. -/
namespace Go.Proofs.Ytfigcfajkilhiaa
open Go.RowKit
theorem pdG_at {acc : Dbd} {ls : List ByteArray} {k : Nat} (h : k < ls.length) : pdG acc (ls.drop k) = (if (splB 61 ls[k]).length = 2 then (match pRel ((splB 61 ls[k]).getD 1 ⟨#[]⟩) with | none => none | some r => pdG (acc ++ [((splB 61 ls[k]).getD 0 ⟨#[]⟩, r)]) (ls.drop (k + 1))) else none) := by
  rw [List.drop_eq_getElem_cons h, pdG] <;> rfl
theorem pdG_nil {acc : Dbd} {ls : List ByteArray} {k : Nat} (h : ¬ k < ls.length) : pdG acc (ls.drop k) = some acc := by
  rw [List.drop_eq_nil_of_le (by omega), pdG]
theorem pdS_at {acc : Dbd} {ls : List ByteArray} {k : Nat} (h : k < ls.length) : pdS acc (ls.drop k) = (match pRel (lastB (splB 61 ls[k])) with | none => none | some r => pdS (acc ++ [((splB 61 ls[k]).getD 0 ⟨#[]⟩, r)]) (ls.drop (k + 1))) := by
  rw [List.drop_eq_getElem_cons h, pdS] <;> rfl
theorem pdS_nil {acc : Dbd} {ls : List ByteArray} {k : Nat} (h : ¬ k < ls.length) : pdS acc (ls.drop k) = some acc := by
  rw [List.drop_eq_nil_of_le (by omega), pdS]
theorem dropLast_at {α : Type} {l : List α} {k : Nat} (h : k < l.dropLast.length) (h2 : k < l.length) : l.dropLast[k] = l[k] := List.getElem_dropLast h
def finO (o : Option Dbd) (s : ByteArray) : Option Dbd := match o with
  | none => none
  | some d => finD d s
def finT (o : Option Dbd) (s : ByteArray) : Option Dbd := match o with
  | none => none
  | some d => if dbB d = true ∧ fmtD d = s then some d else none
theorem pDb_o {s : ByteArray} {ws ls : List ByteArray} (h : splB 10 s = ws) (h2 : ws.dropLast = ls) : pDb s = finO (pdG [] ls) s := by
  subst h h2
  rfl
theorem pDb_t {s : ByteArray} {ws ls : List ByteArray} (h : splB 10 s = ws) (h2 : ws.dropLast = ls) : pDb s = finT (pdS [] ls) s := by
  subst h h2
  rw [← pDbS_eq] <;> rfl
/-- a database made or none, with what it holds newer than the call -/
def DbRes (o : Option Dbd) (w : World) (e : Ending) (w' : World) : Prop := ∃ v F, e = .returned (.tuple #[.agg #[v], .bool o.isSome]) ∧ (∃ y, w' = ext w y) ∧ sDb w' [v] (o.getD []) F ∧ F.Nodup ∧ ∀ b ∈ F, w.heap.size ≤ b
theorem dbRes_none {w w' : World} {e : Ending} {o : Option Dbd} (ho : o = none) (he : e = .returned (.tuple #[.agg #[.slice none 0 0], .bool false])) (hx : ∃ y, w' = ext w y) : DbRes o w e w' := by
  subst ho
  exact ⟨_, [], he, hx, ⟨_, rfl, SV.nil⟩, by simp, by simp⟩
/-- the small of a table read -/
def TW (x : Td) : Prop := x.1.size ≤ 1000000000 ∧ x.2.2.length ≤ 1000000000 ∧ ∀ r ∈ x.2.2, r.length ≤ 1000000000
theorem TW.mk {s : ByteArray} {r : Rd} (hs : s.size ≤ 1000000000) (h : rowsB r.1 r.2 = true) : TW (s, r) := by
  have h1 := rowsB_sz h
  exact ⟨hs, by have := h1.n; dsimp only; omega, fun x hx => by have := h1.rl x hx; omega⟩
theorem TW.wdb {d : Dbd} (hn : d.length ≤ 1000000000) (h : ∀ x ∈ d, TW x) : WDb d := ⟨hn, fun x hx => (h x hx).1, fun x hx => (h x hx).2.1, fun x hx => (h x hx).2.2⟩
set_option maxRecDepth 100000 in
set_option maxHeartbeats 16000000 in
theorem ParseDatabase_any {s : ByteArray} {w : World} (hs : s.size ≤ 1048576) : Calls Try.prog 29 #[.string s] w (DbRes (pDb s) w) := by
  have hpos := splB_pos 10 s
  obtain ⟨ws, hws⟩ : ∃ ws, splB 10 s = ws := ⟨_, rfl⟩
  have HW := Lib.hid hws
  have hwl : ws.length ≤ s.size + 1 := by rw [← hws]; exact splB_length 10 s
  have HWP : Hid (∀ x ∈ ws, x.size ≤ s.size) := Lib.hid (by rw [← hws]; exact fun x hx => splB_piece hx)
  rw [hws] at hpos
  obtain ⟨ls, hls⟩ : ∃ ls, ws.dropLast = ls := ⟨_, rfl⟩
  have hll : ls.length = ws.length - 1 := by rw [← hls]; simp
  have HLS : Hid (∀ k (h : k < ls.length) (h2 : k < ws.length), ls[k] = ws[k]) := Lib.hid (by subst hls; exact fun k h h2 => dropLast_at h h2)
  have HE := Lib.hid (pDb_o hws hls)
  clear hws hls
  go_enter Try.func29, Try.ntmps29
  go_upto_region 1 with fail
  refine wp_name ?_
  intro W hW
  have xW : ∃ y, W = ext w y := by rw [hW.out]; exact (by refine x'z ?_; repeat (with_reducible (first | exact x'a _ _ | exact x'b _ | exact x'c (by assumption) | refine x'd ?_ (by assumption) | refine x'e ?_ _ | refine x'f ?_ _ | refine x'g ?_ | refine x'h ?_ ?_ _ | refine x'i ?_ _ | refine x'j ?_ | refine x'k ?_ _ | refine x'l ?_ _ _ | refine x'm ?_ | assumption | (refine x'n ?_; omega) | omega)))
  have BW0 : BoxAt W (w.heap.size) #[.slice none 0 0] := by rw [hW.out]; refine ⟨?_, fun j => ?_, fun j => ?_⟩ <;> go_simp
  obtain ⟨lW0, bW0, fW0⟩ := BW0
  have cW0_0 : W.cell? ⟨w.heap.size, 0, none⟩ = some (.slice none 0 0) := bW0 0
  clear hW
  have RW : BoxAt W w.heap.size #[.slice none 0 0] := ⟨lW0, bW0, fW0⟩
  clear bW0 fW0 cW0_0
  go_upto_region 2 with fail
  refine wp_name ?_
  intro W2 hW2
  have x2 : ∃ y, W2 = ext W y := by rw [hW2.out]; exact (by refine x'z ?_; repeat (with_reducible (first | exact x'a _ _ | exact x'b _ | exact x'c (by assumption) | refine x'd ?_ (by assumption) | refine x'e ?_ _ | refine x'f ?_ _ | refine x'g ?_ | refine x'h ?_ ?_ _ | refine x'i ?_ _ | refine x'j ?_ | refine x'k ?_ _ | refine x'l ?_ _ _ | refine x'm ?_ | assumption | (refine x'n ?_; omega) | omega)))
  have B2 : BoxAt W2 W.heap.size #[.slice none 0 0] := by rw [hW2.out]; exact (by repeat (with_reducible (first | assumption | exact BoxAt.new _ _ _ | apply BoxAt.set10 | apply BoxAt.set2 | refine BoxAt.set2' ?_ (by omega) | apply BoxAt.setP0 | apply BoxAt.setP1 | refine BoxAt.setO ?_ (by omega) | refine BoxAt.alloc ?_ _ | refine BoxAt.drew ?_ | refine BoxAt.toExt ?_ (by assumption))))
  have hb7 : w.heap.size < W.heap.size := lW0
  obtain ⟨b7, q7⟩ : ∃ b, W.heap.size = b := ⟨_, rfl⟩
  rw [q7] at B2 hb7 ⊢
  have R2 := RW.toExt x2
  have hx02 := trans_ext xW x2
  have hb72 : b7 < W2.heap.size := B2.1
  clear hW2 q7 RW lW0 x2 xW
  go_wp2_with fail
  refine (split_m 10 10 (by omega) (by decide)).mono ?_
  rintro e w4 ⟨vx, Fx, rfl, hx4, hSx, hFx⟩
  rw [HW.out] at hSx
  obtain ⟨Ax, cx, rfl, hxc, hxm⟩ := hSx.form
  have HB74 := Lib.hid (B2.toExt hx4)
  have HR4 := Lib.hid (R2.toExt hx4)
  have HX4 := Lib.hid (trans_ext hx02 hx4)
  have hz4 := size_of_ext hx4
  have H7x : Hid (∀ b ∈ Fx, b ∉ [b7]) := Lib.hid (fun b hb h => by have := hFx b hb; rw [List.mem_singleton.1 h] at this; omega)
  have HSx := Lib.hid hSx
  have h74 : b7 < w4.heap.size := HB74.out.1
  clear hSx hFx B2 R2 hx02 hx4
  go_wp2_with fail
  go_loopw [19] (fun i wr => ∃ (k : Nat) (d : Dbd) (A : Option Addr) (c : Nat) (F : List Nat), i = .int .i64 k ∧ k ≤ ls.length ∧ BoxAt wr b7 #[.slice A d.length c] ∧ SV 108 3 sTb wr (.slice A d.length c) d F ∧ F.Nodup ∧ (∀ b ∈ F, w4.heap.size ≤ b) ∧ Chg [b7] w4 wr ∧ d.length ≤ k ∧ (∀ x ∈ d, TW x) ∧ Hid (pdG d (ls.drop k) = pdG [] ls)) (fun i _ => ls.length - (intOf i).toNat)
  case atStart => exact ⟨0, [], none, 0, [], rfl, by omega, HB74.out, SV.nil, by simp, by simp, Chg.refl _ _, by simp, by simp, Lib.hid rfl⟩
  case round =>
    obtain ⟨k, d, A, c, F, rfl, hk, hB, hS, hN, hF, hC, hdl, hdw, Hj⟩ := hrel
    have HS := Lib.hid hS
    have HSl := Lib.hid hS.lt
    have HN := Lib.hid hN
    have HF := Lib.hid hF
    have HC := Lib.hid hC
    have HDW := Lib.hid hdw
    have HB := Lib.hid hB
    have h7r : b7 < wr.heap.size := hB.1
    have hzc := hC.size
    by_cases hlt : k < ls.length
    · have hlt2 : k < ws.length := by omega
      obtain ⟨_, _, e5, _, _, rx⟩ := (HSx.out.chg hC H7x.out).view sS_v
      injection e5 with e5 _ e6
      subst e5 e6
      obtain ⟨bx, ox, rfl, hbx, hcx⟩ := rx.atS hlt2
      have ej := Hj.out
      rw [pdG_at hlt, HLS.out k hlt hlt2] at ej
      obtain ⟨wd, hwd⟩ : ∃ x, ws[k] = x := ⟨_, rfl⟩
      have hwdp : wd.size ≤ s.size := by rw [← hwd]; exact HWP.out _ (List.getElem_mem hlt2)
      rw [hwd] at ej hcx
      obtain ⟨ps, hps⟩ : ∃ ps, splB 61 wd = ps := ⟨_, rfl⟩
      have hppos := splB_pos 61 wd
      have hpl : ps.length ≤ wd.size + 1 := by rw [← hps]; exact splB_length 61 wd
      have hpp : ∀ x ∈ ps, x.size ≤ wd.size := by rw [← hps]; exact fun x hx => splB_piece hx
      rw [hps] at ej hppos
      have HPS := Lib.hid hps
      have HPP := Lib.hid hpp
      obtain ⟨nm, hnm⟩ : ∃ x, ps.getD 0 ⟨#[]⟩ = x := ⟨_, rfl⟩
      have HNM := Lib.hid hnm
      have hnms : nm.size ≤ wd.size := by
        rw [← hnm, show ps.getD 0 ⟨#[]⟩ = ps[0] by simp [List.getD_eq_getElem?_getD, hppos]]
        exact hpp _ (List.getElem_mem hppos)
      rw [hnm] at ej
      have HX0 := Lib.hid (hC.isExt HX4.out (by simp; omega))
      have HR5 := Lib.hid (HR4.out.chg hC (by simp; omega))
      clear hwd hps hpp hnm hS hN hF hC hdw hB rx
      go_upto_region 6 with fail
      go_wp2_with fail
      refine (split_m 61 61 (by omega) (by decide)).mono ?_
      rintro e w5 ⟨vp, Fp, rfl, hx5, hSp, hFp⟩
      rw [HPS.out] at hSp
      obtain ⟨Ap, cp, rfl, _, _, rp⟩ := hSp.view sS_v
      clear hSp hFp
      by_cases hp2 : ps.length = 2
      · rw [if_pos hp2] at ej
        have q1 : ((ps.length : Int) != 2) = false := by simp [hp2]
        have h1p : 1 < ps.length := by omega
        obtain ⟨p2, hpp2⟩ : ∃ p, ps.getD 1 ⟨#[]⟩ = p := ⟨_, rfl⟩
        have e1p : ps[1] = p2 := by rw [← hpp2]; simp [List.getD_eq_getElem?_getD, h1p]
        have hps2 : p2.size ≤ wd.size := by rw [← e1p]; exact HPP.out _ (List.getElem_mem h1p)
        rw [hpp2] at ej
        obtain ⟨o9, ho9⟩ : ∃ o, pRel p2 = o := ⟨_, rfl⟩
        have HO9 := Lib.hid ho9
        rw [ho9] at ej
        have hX5 := Lib.hid (trans_ext HX0.out hx5)
        obtain ⟨bp, op, rfl, hbp, hcp⟩ := rp.atS h1p
        rw [e1p] at hcp
        have RP := Lib.hid rp
        clear hpp2 ho9 hp2 rp
        go_upto_region 9 with fail
        go_wp2_with fail
        refine (ParseRelation_any (by omega)).mono ?_
        rintro e w9 ⟨u9, v9, F9, rfl, hx9, hS9, hN9, hF9⟩
        rw [HO9.out] at hS9 ⊢
        obtain ⟨A9, c9, rfl, rfl, _⟩ := sRel_form hS9
        have R9 := HR5.out.toExt (trans_ext hx5 hx9)
        obtain ⟨lr9, r90, fr9⟩ := bx1 R9
        cases o9 with
        | none =>
          have HZ := Lib.hid (show pDb s = none by rw [HE.out, ← ej] <;> rfl)
          have hX := trans_ext hX5.out hx9
          simp only [Option.isSome_none, Option.getD_none] at hS9 ⊢
          clear ej hS9
          go_wp2
          refine bodyPost_ret (v := .tuple #[.agg #[.slice none 0 0], .bool false]) (by simp [results, Try.results29, go_sem, *]) rfl (dbRes_none HZ.out rfl (by refine x'z ?_; repeat (with_reducible (first | exact x'a _ _ | exact x'b _ | exact x'c (by assumption) | refine x'd ?_ (by assumption) | refine x'e ?_ _ | refine x'f ?_ _ | refine x'g ?_ | refine x'h ?_ ?_ _ | refine x'i ?_ _ | refine x'j ?_ | refine x'k ?_ _ | refine x'l ?_ _ _ | refine x'm ?_ | assumption | (refine x'n ?_; omega) | omega))))
        | some r =>
          simp only [Option.isSome_some, Option.getD_some] at hS9 ⊢
          have HEJ := Lib.hid ej
          have HTW := Lib.hid (TW.mk (s := nm) (by omega) (pRel_some HO9.out).1)
          have hx59 := trans_ext hx5 hx9
          have HRP := Lib.hid (RP.out.toExt hx9)
          clear ej
          go_upto_region 12 with fail
          refine wp_name ?_
          intro W6 hW6
          have x96 : ∃ y, W6 = ext w9 y := by rw [hW6.out]; exact (by refine x'z ?_; repeat (with_reducible (first | exact x'a _ _ | exact x'b _ | exact x'c (by assumption) | refine x'd ?_ (by assumption) | refine x'e ?_ _ | refine x'f ?_ _ | refine x'g ?_ | refine x'h ?_ ?_ _ | refine x'i ?_ _ | refine x'j ?_ | refine x'k ?_ _ | refine x'l ?_ _ _ | refine x'm ?_ | assumption | (refine x'n ?_; omega) | omega)))
          have T6 : BoxAt W6 w9.heap.size #[.int .i64 r.1, .slice A9 r.2.length c9] := by rw [hW6.out]; exact (by repeat (with_reducible (first | assumption | exact BoxAt.new _ _ _ | apply BoxAt.set2 | refine BoxAt.set2' ?_ (by omega) | apply BoxAt.setP0 | apply BoxAt.setP1 | refine BoxAt.setO ?_ (by omega) | refine BoxAt.alloc ?_ _ | refine BoxAt.drew ?_ | refine BoxAt.toExt ?_ (by assumption))))
          have x6 := trans_ext hx59 x96
          have HS9 : Hid (sRel W6 [.int .i64 r.1, .slice A9 r.2.length c9] r F9) := Lib.hid (OD.toExt hS9 x96)
          have hF9' : ∀ b ∈ F9, wr.heap.size ≤ b := fun b hb => Nat.le_trans (size_of_ext hx5) (hF9 b hb)
          have HNN := Lib.hid (nodup_more HN.out hN9 HSl.out hF9')
          have HF9 := Lib.hid (show ∀ b ∈ F9, w4.heap.size ≤ b from fun b hb => by have := hF9' b hb; omega)
          obtain ⟨bp', op', ep', hbp, hcp⟩ := (HRP.out.toExt x96).atS1 hppos HNM.out
          injection ep' with ep'
          injection ep' with ep1 ep2
          subst ep1 ep2
          obtain ⟨lt6, t60, t61, ft6⟩ := bx2 T6
          clear hW6 hS9 hN9 hF9 hF9' lr9 r90 fr9 R9 hx5 hx9 hx59 T6
          have B6 := HB.out.toExt x6
          have S6 := HS.out.toExt x6
          have hz6 := size_of_ext x6
          have HB6 := Lib.hid B6
          have HS6 := Lib.hid S6
          have HC6 := Lib.hid (HC.out.trans0 x6)
          have h7nF : b7 ∉ F := fun h => by have := HF.out b7 h; omega
          have hal2 : d.length + 1 ≤ 2000000000 := by omega
          obtain ⟨lb6, b6, fb6⟩ := bx1 B6
          clear B6 S6
          go_region_law (first
            | (refine step_appB (E := sTb) (d := (nm, r)) (G := F9) (cs := #[.string nm, .int .i64 r.1, .slice A9 r.2.length c9]) (by rfl) _ _ _ (by rfl) tTb (by rfl) (by rfl) (by exact BoxAt.new _ _ _) (sTb_mk (OD.toExt HS9.out (by refine x'z ?_; repeat (with_reducible (first | exact x'a _ _ | exact x'b _ | exact x'c (by assumption) | refine x'd ?_ (by assumption) | refine x'e ?_ _ | refine x'f ?_ _ | refine x'g ?_ | refine x'h ?_ ?_ _ | refine x'i ?_ _ | refine x'j ?_ | refine x'k ?_ _ | refine x'l ?_ _ _ | refine x'm ?_ | assumption | (refine x'n ?_; omega) | omega))))) (by rfl) (by simp [Value.oneCell']) (HS6.out.toExt (by refine x'z ?_; repeat (with_reducible (first | exact x'a _ _ | exact x'b _ | exact x'c (by assumption) | refine x'd ?_ (by assumption) | refine x'e ?_ _ | refine x'f ?_ _ | refine x'g ?_ | refine x'h ?_ ?_ _ | refine x'i ?_ _ | refine x'j ?_ | refine x'k ?_ _ | refine x'l ?_ _ _ | refine x'm ?_ | assumption | (refine x'n ?_; omega) | omega)))) HNN.out hal2 (by omega) ?_; intro v7 w7 F7 hS7 hC7 hN7 hF7; obtain ⟨A7, c7, rfl, _, _⟩ := hS7.form; have B7 := ((HB6.out.drew).alloc (.cells #[.string nm, .int .i64 r.1, .slice A9 r.2.length c9] 108)).chg hC7 h7nF; obtain ⟨l7, k7, f7⟩ := bx1 B7))
          all_goals
            have hF7n : ∀ b ∈ F7, w4.heap.size ≤ b := fun b hb => by
              rcases hF7 b hb with h | h | h
              · exact HF.out b h
              · have := HF9.out b h; omega
              · simp at h; omega
            have hCa := ((((HC6.out.drew).alloc (.cells #[.string nm, .int .i64 r.1, .slice A9 r.2.length c9] 108)).trans hC7 (fun x hx => .inr (HF.out x hx)))).setCell (p := ⟨b7, 0, none⟩) (.inl (by simp)) (.slice A7 (d ++ [(nm, r)]).length c7)
            have hSf := hS7.chg ((Chg.refl [b7] w7).setCell (p := ⟨b7, 0, none⟩) (.inl (by simp)) (.slice A7 (d ++ [(nm, r)]).length c7)) (fun b hb h => by have := hF7n b hb; rw [List.mem_singleton.1 h] at this; omega)
            have hBf := B7.set10 (u := .slice A7 (d ++ [(nm, r)]).length c7)
            have HH := Lib.hid (And.intro hSf (And.intro hBf (And.intro hCa hF7n)))
            have HN7 := Lib.hid hN7
            have HDf : Hid (∀ x ∈ d ++ [(nm, r)], TW x) := Lib.hid (fun x hx => by
              rcases List.mem_append.1 hx with h | h
              · exact HDW.out x h
              · rw [List.mem_singleton.1 h]; exact HTW.out)
            clear hCa hF7n hSf hBf hS7 hC7 hN7 hF7 B7
            go_wp2
            rw [show d.length + 1 = (d ++ [(nm, r)]).length by simp]
            exact ⟨⟨k + 1, d ++ [(nm, r)], A7, c7, F7, by go_num, by omega, HH.out.2.1, HH.out.1, HN7.out, HH.out.2.2.2, HH.out.2.2.1, by simp; omega, HDf.out, HEJ⟩, by simp [intOf]; omega⟩
      · rw [if_neg hp2] at ej
        have q1 : ((ps.length : Int) != 2) = true := by rw [bne_iff_ne]; omega
        have HZ := Lib.hid (show pDb s = none by rw [HE.out, ← ej] <;> rfl)
        have hX := trans_ext HX0.out hx5
        obtain ⟨lr9, r90, fr9⟩ := bx1 (HR5.out.toExt hx5)
        clear ej hp2
        go_wp2
        refine bodyPost_ret (v := .tuple #[.agg #[.slice none 0 0], .bool false]) (by simp [results, Try.results29, go_sem, *]) rfl (dbRes_none HZ.out rfl (by refine x'z ?_; repeat (with_reducible (first | exact x'a _ _ | exact x'b _ | exact x'c (by assumption) | refine x'd ?_ (by assumption) | refine x'e ?_ _ | refine x'f ?_ _ | refine x'g ?_ | refine x'h ?_ ?_ _ | refine x'i ?_ _ | refine x'j ?_ | refine x'k ?_ _ | refine x'l ?_ _ _ | refine x'm ?_ | assumption | (refine x'n ?_; omega) | omega))))
    · have ej := Hj.out
      rw [pdG_nil hlt] at ej
      have HE3 := Lib.hid (show pDb s = finD d s by rw [HE.out, ← ej] <;> rfl)
      have HXr := Lib.hid (hC.isExt HX4.out (by simp; omega))
      have HR5 := Lib.hid (HR4.out.chg hC (by simp; omega))
      have hz4w := size_of_ext HX4.out
      have HFN : Hid (∀ b ∈ F, w.heap.size < b) := Lib.hid (fun b hb => by have := HF.out b hb; omega)
      have HWD := Lib.hid (TW.wdb (by omega) hdw)
      have HQ : Hid (sDb wr [.slice A d.length c] d F) := Lib.hid ⟨_, rfl, HS.out⟩
      have HV := Lib.hid (vDb_get (sDb_v _ _ _ HQ.out)).2.1
      obtain ⟨l7, k7, f7⟩ := bx1 HB.out
      obtain ⟨l5, k5, f5⟩ := bx1 HR5.out
      clear ej hS hN hF hC hdw hB
      obtain ⟨t, ht⟩ : ∃ t, fmtD d = t := ⟨_, rfl⟩
      have HT := Lib.hid ht
      by_cases hts : t = s
      · have q8 := str_bnet hts
        have q9 := str_beqt hts
        have HE4 := Lib.hid (show pDb s = some d by rw [HE3.out]; unfold finD; rw [if_pos (ht.trans hts)])
        clear ht hts
        go_wp2_with (go_at_call 18; refine (FormatDatabase_any HWD.out HV.out).mono ?_; rintro e w8 ⟨rfl, hx8⟩; rw [HT.out]; obtain ⟨l8, k8, f8⟩ := bx1 (HB.out.toExt hx8); obtain ⟨l9, k9, f9⟩ := bx1 (HR5.out.toExt hx8))
        have hX := HXr.out
        have hQ8 : sDb w8 [.slice A d.length c] d F := OD.toExt HQ.out hx8
        refine bodyPost_ret (v := .tuple #[.agg #[.slice A d.length c], .bool true]) (by simp [results, Try.results29, go_sem, *]) rfl ⟨_, F, by rw [HE4.out]; rfl, (by refine x'z ?_; repeat (with_reducible (first | exact x'a _ _ | exact x'b _ | exact x'c (by assumption) | refine x'd ?_ (by assumption) | refine x'e ?_ _ | refine x'f ?_ _ | refine x'g ?_ | refine x'h ?_ ?_ _ | refine x'i ?_ _ | refine x'j ?_ | refine x'k ?_ _ | refine x'l ?_ _ _ | refine x'm ?_ | assumption | (refine x'n ?_; omega) | omega))), by rw [HE4.out]; exact OD.chg (G := [w.heap.size]) hQ8 (by repeat (with_reducible (first | exact Chg.refl _ _ | refine Chg.trans0 ?_ (by assumption) | refine Chg.extS ?_ _ | refine Chg.alloc ?_ _ | refine Chg.drew ?_ | refine Chg.setCell ?_ (.inl (by simp)) _))) (fun b hb h => by have := HFN.out b hb; rw [List.mem_singleton.1 h] at this; omega), HN.out, fun b hb => Nat.le_of_lt (HFN.out b hb)⟩
      · have q8 := str_bnef hts
        have q9 := str_beqf hts
        have HZ := Lib.hid (show pDb s = none by rw [HE3.out]; unfold finD; rw [if_neg (fun h => hts (ht.symm.trans h))])
        clear ht hts
        go_wp2_with (go_at_call 18; refine (FormatDatabase_any HWD.out HV.out).mono ?_; rintro e w8 ⟨rfl, hx8⟩; rw [HT.out]; obtain ⟨l8, k8, f8⟩ := bx1 (HB.out.toExt hx8); obtain ⟨l9, k9, f9⟩ := bx1 (HR5.out.toExt hx8))
        have hX := HXr.out
        refine bodyPost_ret (v := .tuple #[.agg #[.slice none 0 0], .bool false]) (by simp [results, Try.results29, go_sem, *]) rfl (dbRes_none HZ.out rfl (by refine x'z ?_; repeat (with_reducible (first | exact x'a _ _ | exact x'b _ | exact x'c (by assumption) | refine x'd ?_ (by assumption) | refine x'e ?_ _ | refine x'f ?_ _ | refine x'g ?_ | refine x'h ?_ ?_ _ | refine x'i ?_ _ | refine x'j ?_ | refine x'k ?_ _ | refine x'l ?_ _ _ | refine x'm ?_ | assumption | (refine x'n ?_; omega) | omega))))
set_option maxRecDepth 100000 in
set_option maxHeartbeats 16000000 in
theorem specParseDatabase_any {s : ByteArray} {w : World} (hs : s.size ≤ 1048576) : Calls Try.prog 28 #[.string s] w (DbRes (pDb s) w) := by
  have hpos := splB_pos 10 s
  obtain ⟨ws, hws⟩ : ∃ ws, splB 10 s = ws := ⟨_, rfl⟩
  have HW := Lib.hid hws
  have hwl : ws.length ≤ s.size + 1 := by rw [← hws]; exact splB_length 10 s
  have HWP : Hid (∀ x ∈ ws, x.size ≤ s.size) := Lib.hid (by rw [← hws]; exact fun x hx => splB_piece hx)
  rw [hws] at hpos
  obtain ⟨ls, hls⟩ : ∃ ls, ws.dropLast = ls := ⟨_, rfl⟩
  have hll : ls.length = ws.length - 1 := by rw [← hls]; simp
  have HLS : Hid (∀ k (h : k < ls.length) (h2 : k < ws.length), ls[k] = ws[k]) := Lib.hid (by subst hls; exact fun k h h2 => dropLast_at h h2)
  have HE := Lib.hid (pDb_t hws hls)
  clear hws hls
  go_enter Try.func28, Try.ntmps28
  go_upto_region 1 with fail
  refine wp_name ?_
  intro W hW
  have xW : ∃ y, W = ext w y := by rw [hW.out]; exact (by refine x'z ?_; repeat (with_reducible (first | exact x'a _ _ | exact x'b _ | exact x'c (by assumption) | refine x'd ?_ (by assumption) | refine x'e ?_ _ | refine x'f ?_ _ | refine x'g ?_ | refine x'h ?_ ?_ _ | refine x'i ?_ _ | refine x'j ?_ | refine x'k ?_ _ | refine x'l ?_ _ _ | refine x'm ?_ | assumption | (refine x'n ?_; omega) | omega)))
  have BW0 : BoxAt W (w.heap.size) #[.slice none 0 0] := by rw [hW.out]; refine ⟨?_, fun j => ?_, fun j => ?_⟩ <;> go_simp
  obtain ⟨lW0, bW0, fW0⟩ := BW0
  have cW0_0 : W.cell? ⟨w.heap.size, 0, none⟩ = some (.slice none 0 0) := bW0 0
  clear hW
  have RW : BoxAt W w.heap.size #[.slice none 0 0] := ⟨lW0, bW0, fW0⟩
  clear bW0 fW0 cW0_0
  go_upto_region 2 with fail
  refine wp_name ?_
  intro W2 hW2
  have x2 : ∃ y, W2 = ext W y := by rw [hW2.out]; exact (by refine x'z ?_; repeat (with_reducible (first | exact x'a _ _ | exact x'b _ | exact x'c (by assumption) | refine x'd ?_ (by assumption) | refine x'e ?_ _ | refine x'f ?_ _ | refine x'g ?_ | refine x'h ?_ ?_ _ | refine x'i ?_ _ | refine x'j ?_ | refine x'k ?_ _ | refine x'l ?_ _ _ | refine x'm ?_ | assumption | (refine x'n ?_; omega) | omega)))
  have B2 : BoxAt W2 W.heap.size #[.slice none 0 0] := by rw [hW2.out]; exact (by repeat (with_reducible (first | assumption | exact BoxAt.new _ _ _ | apply BoxAt.set10 | apply BoxAt.set2 | refine BoxAt.set2' ?_ (by omega) | apply BoxAt.setP0 | apply BoxAt.setP1 | refine BoxAt.setO ?_ (by omega) | refine BoxAt.alloc ?_ _ | refine BoxAt.drew ?_ | refine BoxAt.toExt ?_ (by assumption))))
  have hb7 : w.heap.size < W.heap.size := lW0
  obtain ⟨b7, q7⟩ : ∃ b, W.heap.size = b := ⟨_, rfl⟩
  rw [q7] at B2 hb7 ⊢
  have R2 := RW.toExt x2
  have hx02 := trans_ext xW x2
  have hb72 : b7 < W2.heap.size := B2.1
  clear hW2 q7 RW lW0 x2 xW
  go_wp2_with fail
  refine (l5Cut_m 10 10 (by omega) (by decide)).mono ?_
  rintro e w4 ⟨vx, Fx, rfl, hx4, hSx, hFx⟩
  rw [HW.out] at hSx
  obtain ⟨Ax, cx, rfl, hxc, hxm⟩ := hSx.form
  have HB74 := Lib.hid (B2.toExt hx4)
  have HR4 := Lib.hid (R2.toExt hx4)
  have HX4 := Lib.hid (trans_ext hx02 hx4)
  have hz4 := size_of_ext hx4
  have H7x : Hid (∀ b ∈ Fx, b ∉ [b7]) := Lib.hid (fun b hb h => by have := hFx b hb; rw [List.mem_singleton.1 h] at this; omega)
  have HSx := Lib.hid hSx
  have h74 : b7 < w4.heap.size := HB74.out.1
  clear hSx hFx B2 R2 hx02 hx4
  go_wp2_with fail
  go_loopw [6] (fun i wr => ∃ (k : Nat) (d : Dbd) (A : Option Addr) (c : Nat) (F : List Nat), i = .int .i64 k ∧ k ≤ ls.length ∧ BoxAt wr b7 #[.slice A d.length c] ∧ SV 108 3 sTb wr (.slice A d.length c) d F ∧ F.Nodup ∧ (∀ b ∈ F, w4.heap.size ≤ b) ∧ Chg [b7] w4 wr ∧ d.length ≤ k ∧ (∀ x ∈ d, TW x) ∧ Hid (pdS d (ls.drop k) = pdS [] ls)) (fun i _ => ls.length - (intOf i).toNat)
  case atStart => exact ⟨0, [], none, 0, [], rfl, by omega, HB74.out, SV.nil, by simp, by simp, Chg.refl _ _, by simp, by simp, Lib.hid rfl⟩
  case round =>
    obtain ⟨k, d, A, c, F, rfl, hk, hB, hS, hN, hF, hC, hdl, hdw, Hj⟩ := hrel
    have HS := Lib.hid hS
    have HSl := Lib.hid hS.lt
    have HN := Lib.hid hN
    have HF := Lib.hid hF
    have HC := Lib.hid hC
    have HDW := Lib.hid hdw
    have HB := Lib.hid hB
    have h7r : b7 < wr.heap.size := hB.1
    have hzc := hC.size
    by_cases hlt : k < ls.length
    · have hlt2 : k < ws.length := by omega
      obtain ⟨_, _, e5, _, _, rx⟩ := (HSx.out.chg hC H7x.out).view sS_v
      injection e5 with e5 _ e6
      subst e5 e6
      obtain ⟨bx, ox, rfl, hbx, hcx⟩ := rx.atS hlt2
      have ej := Hj.out
      rw [pdS_at hlt, HLS.out k hlt hlt2] at ej
      obtain ⟨wd, hwd⟩ : ∃ x, ws[k] = x := ⟨_, rfl⟩
      have hwdp : wd.size ≤ s.size := by rw [← hwd]; exact HWP.out _ (List.getElem_mem hlt2)
      rw [hwd] at ej hcx
      obtain ⟨ps, hps⟩ : ∃ ps, splB 61 wd = ps := ⟨_, rfl⟩
      have hppos := splB_pos 61 wd
      have hpl : ps.length ≤ wd.size + 1 := by rw [← hps]; exact splB_length 61 wd
      have hpp : ∀ x ∈ ps, x.size ≤ wd.size := by rw [← hps]; exact fun x hx => splB_piece hx
      rw [hps] at ej hppos
      have HPS := Lib.hid hps
      have HPP := Lib.hid hpp
      obtain ⟨nm, hnm⟩ : ∃ x, ps.getD 0 ⟨#[]⟩ = x := ⟨_, rfl⟩
      have HNM := Lib.hid hnm
      have hnms : nm.size ≤ wd.size := by
        rw [← hnm, show ps.getD 0 ⟨#[]⟩ = ps[0] by simp [List.getD_eq_getElem?_getD, hppos]]
        exact hpp _ (List.getElem_mem hppos)
      rw [hnm] at ej
      have HX0 := Lib.hid (hC.isExt HX4.out (by simp; omega))
      have HR5 := Lib.hid (HR4.out.chg hC (by simp; omega))
      clear hwd hps hpp hnm hS hN hF hC hdw hB rx
      go_wp2_with fail
      refine (l5Cut_m 61 61 (by omega) (by decide)).mono ?_
      rintro e w5 ⟨vp, Fp, rfl, hx5, hSp, hFp⟩
      rw [HPS.out] at hSp
      obtain ⟨Ap, cp, rfl, _, _, rp⟩ := hSp.view sS_v
      clear hSp hFp
      have hlp : ps.length - 1 < ps.length := by omega
      obtain ⟨p2, hpp2⟩ : ∃ p, lastB ps = p := ⟨_, rfl⟩
      have e1p : ps[ps.length - 1] = p2 := by rw [← hpp2]; unfold lastB; simp [List.getD_eq_getElem?_getD, hlp]
      have hps2 : p2.size ≤ wd.size := by rw [← e1p]; exact HPP.out _ (List.getElem_mem hlp)
      rw [hpp2] at ej
      obtain ⟨o9, ho9⟩ : ∃ o, pRel p2 = o := ⟨_, rfl⟩
      have HO9 := Lib.hid ho9
      rw [ho9] at ej
      have hX5 := Lib.hid (trans_ext HX0.out hx5)
      obtain ⟨bp, op, rfl, hbp, hcp⟩ := rp.atS hlp
      rw [e1p] at hcp
      have RP := Lib.hid rp
      clear hpp2 ho9 rp e1p
      go_wp2_with fail
      refine (specParseRelation_any (by omega)).mono ?_
      rintro e w9 ⟨u9, v9, F9, rfl, hx9, hS9, hN9, hF9⟩
      rw [HO9.out] at hS9 ⊢
      obtain ⟨A9, c9, rfl, rfl, _⟩ := sRel_form hS9
      have R9 := HR5.out.toExt (trans_ext hx5 hx9)
      obtain ⟨lr9, r90, fr9⟩ := bx1 R9
      cases o9 with
      | none =>
        have HZ := Lib.hid (show pDb s = none by rw [HE.out, ← ej] <;> rfl)
        have hX := trans_ext hX5.out hx9
        simp only [Option.isSome_none, Option.getD_none] at hS9 ⊢
        clear ej hS9
        go_wp2
        refine bodyPost_ret (v := .tuple #[.agg #[.slice none 0 0], .bool false]) (by simp [results, Try.results28, go_sem, *]) rfl (dbRes_none HZ.out rfl (by refine x'z ?_; repeat (with_reducible (first | exact x'a _ _ | exact x'b _ | exact x'c (by assumption) | refine x'd ?_ (by assumption) | refine x'e ?_ _ | refine x'f ?_ _ | refine x'g ?_ | refine x'h ?_ ?_ _ | refine x'i ?_ _ | refine x'j ?_ | refine x'k ?_ _ | refine x'l ?_ _ _ | refine x'm ?_ | assumption | (refine x'n ?_; omega) | omega))))
      | some r =>
        simp only [Option.isSome_some, Option.getD_some] at hS9 ⊢
        have HEJ := Lib.hid ej
        have HTW := Lib.hid (TW.mk (s := nm) (by omega) (pRel_some HO9.out).1)
        have hx59 := trans_ext hx5 hx9
        have HRP := Lib.hid (RP.out.toExt hx9)
        clear ej
        go_upto_region 10 with fail
        refine wp_name ?_
        intro W6 hW6
        have x96 : ∃ y, W6 = ext w9 y := by rw [hW6.out]; exact (by refine x'z ?_; repeat (with_reducible (first | exact x'a _ _ | exact x'b _ | exact x'c (by assumption) | refine x'd ?_ (by assumption) | refine x'e ?_ _ | refine x'f ?_ _ | refine x'g ?_ | refine x'h ?_ ?_ _ | refine x'i ?_ _ | refine x'j ?_ | refine x'k ?_ _ | refine x'l ?_ _ _ | refine x'm ?_ | assumption | (refine x'n ?_; omega) | omega)))
        have T6 : BoxAt W6 w9.heap.size #[.int .i64 r.1, .slice A9 r.2.length c9] := by rw [hW6.out]; exact (by repeat (with_reducible (first | assumption | exact BoxAt.new _ _ _ | apply BoxAt.set2 | refine BoxAt.set2' ?_ (by omega) | apply BoxAt.setP0 | apply BoxAt.setP1 | refine BoxAt.setO ?_ (by omega) | refine BoxAt.alloc ?_ _ | refine BoxAt.drew ?_ | refine BoxAt.toExt ?_ (by assumption))))
        have x6 := trans_ext hx59 x96
        have HS9 : Hid (sRel W6 [.int .i64 r.1, .slice A9 r.2.length c9] r F9) := Lib.hid (OD.toExt hS9 x96)
        have hF9' : ∀ b ∈ F9, wr.heap.size ≤ b := fun b hb => Nat.le_trans (size_of_ext hx5) (hF9 b hb)
        have HNN := Lib.hid (nodup_more HN.out hN9 HSl.out hF9')
        have HF9 := Lib.hid (show ∀ b ∈ F9, w4.heap.size ≤ b from fun b hb => by have := hF9' b hb; omega)
        obtain ⟨bp', op', ep', hbp, hcp⟩ := (HRP.out.toExt x96).atS1 hppos HNM.out
        injection ep' with ep'
        injection ep' with ep1 ep2
        subst ep1 ep2
        obtain ⟨lt6, t60, t61, ft6⟩ := bx2 T6
        clear hW6 hS9 hN9 hF9 hF9' lr9 r90 fr9 R9 hx5 hx9 hx59 T6
        have B6 := HB.out.toExt x6
        have S6 := HS.out.toExt x6
        have hz6 := size_of_ext x6
        have HB6 := Lib.hid B6
        have HS6 := Lib.hid S6
        have HC6 := Lib.hid (HC.out.trans0 x6)
        have h7nF : b7 ∉ F := fun h => by have := HF.out b7 h; omega
        have hal2 : d.length + 1 ≤ 2000000000 := by omega
        obtain ⟨lb6, b6, fb6⟩ := bx1 B6
        clear B6 S6
        go_region_law (first
          | (refine step_appB (E := sTb) (d := (nm, r)) (G := F9) (cs := #[.string nm, .int .i64 r.1, .slice A9 r.2.length c9]) (by rfl) _ _ _ (by rfl) tTb (by rfl) (by rfl) (by exact BoxAt.new _ _ _) (sTb_mk (OD.toExt HS9.out (by refine x'z ?_; repeat (with_reducible (first | exact x'a _ _ | exact x'b _ | exact x'c (by assumption) | refine x'd ?_ (by assumption) | refine x'e ?_ _ | refine x'f ?_ _ | refine x'g ?_ | refine x'h ?_ ?_ _ | refine x'i ?_ _ | refine x'j ?_ | refine x'k ?_ _ | refine x'l ?_ _ _ | refine x'm ?_ | assumption | (refine x'n ?_; omega) | omega))))) (by rfl) (by simp [Value.oneCell']) (HS6.out.toExt (by refine x'z ?_; repeat (with_reducible (first | exact x'a _ _ | exact x'b _ | exact x'c (by assumption) | refine x'd ?_ (by assumption) | refine x'e ?_ _ | refine x'f ?_ _ | refine x'g ?_ | refine x'h ?_ ?_ _ | refine x'i ?_ _ | refine x'j ?_ | refine x'k ?_ _ | refine x'l ?_ _ _ | refine x'm ?_ | assumption | (refine x'n ?_; omega) | omega)))) HNN.out hal2 (by omega) ?_; intro v7 w7 F7 hS7 hC7 hN7 hF7; obtain ⟨A7, c7, rfl, _, _⟩ := hS7.form; have B7 := ((HB6.out.drew).alloc (.cells #[.string nm, .int .i64 r.1, .slice A9 r.2.length c9] 108)).chg hC7 h7nF; obtain ⟨l7, k7, f7⟩ := bx1 B7))
        all_goals
          have hF7n : ∀ b ∈ F7, w4.heap.size ≤ b := fun b hb => by
            rcases hF7 b hb with h | h | h
            · exact HF.out b h
            · have := HF9.out b h; omega
            · simp at h; omega
          have hCa := ((((HC6.out.drew).alloc (.cells #[.string nm, .int .i64 r.1, .slice A9 r.2.length c9] 108)).trans hC7 (fun x hx => .inr (HF.out x hx)))).setCell (p := ⟨b7, 0, none⟩) (.inl (by simp)) (.slice A7 (d ++ [(nm, r)]).length c7)
          have hSf := hS7.chg ((Chg.refl [b7] w7).setCell (p := ⟨b7, 0, none⟩) (.inl (by simp)) (.slice A7 (d ++ [(nm, r)]).length c7)) (fun b hb h => by have := hF7n b hb; rw [List.mem_singleton.1 h] at this; omega)
          have hBf := B7.set10 (u := .slice A7 (d ++ [(nm, r)]).length c7)
          have HH := Lib.hid (And.intro hSf (And.intro hBf (And.intro hCa hF7n)))
          have HN7 := Lib.hid hN7
          have HDf : Hid (∀ x ∈ d ++ [(nm, r)], TW x) := Lib.hid (fun x hx => by
            rcases List.mem_append.1 hx with h | h
            · exact HDW.out x h
            · rw [List.mem_singleton.1 h]; exact HTW.out)
          clear hCa hF7n hSf hBf hS7 hC7 hN7 hF7 B7
          go_wp2
          rw [show d.length + 1 = (d ++ [(nm, r)]).length by simp]
          exact ⟨⟨k + 1, d ++ [(nm, r)], A7, c7, F7, by go_num, by omega, HH.out.2.1, HH.out.1, HN7.out, HH.out.2.2.2, HH.out.2.2.1, by simp; omega, HDf.out, HEJ⟩, by simp [intOf]; omega⟩
    · have ej := Hj.out
      rw [pdS_nil hlt] at ej
      have HE3 := Lib.hid (show pDb s = (if dbB d = true ∧ fmtD d = s then some d else none) by rw [HE.out, ← ej] <;> rfl)
      have HXr := Lib.hid (hC.isExt HX4.out (by simp; omega))
      have HR5 := Lib.hid (HR4.out.chg hC (by simp; omega))
      have hz4w := size_of_ext HX4.out
      have HFN : Hid (∀ b ∈ F, w.heap.size < b) := Lib.hid (fun b hb => by have := HF.out b hb; omega)
      have HWD := Lib.hid (TW.wdb (by omega) hdw)
      have HQ : Hid (sDb wr [.slice A d.length c] d F) := Lib.hid ⟨_, rfl, HS.out⟩
      have HV := Lib.hid (vDb_get (sDb_v _ _ _ HQ.out)).2.1
      obtain ⟨l7, k7, f7⟩ := bx1 HB.out
      obtain ⟨l5, k5, f5⟩ := bx1 HR5.out
      clear ej hS hN hF hC hdw hB
      obtain ⟨tv, htv⟩ : ∃ t, dbB d = t := ⟨_, rfl⟩
      have HTV := Lib.hid htv
      cases tv with
      | false =>
        have HZ := Lib.hid (show pDb s = none by rw [HE3.out, htv, if_neg (fun h => by cases h.1)])
        clear htv
        go_wp2_with (go_at_call 60; refine (specIsValidDatabase_w HWD.out HV.out).mono ?_; rintro e w8 ⟨rfl, hx8⟩; rw [HTV.out]; obtain ⟨l8, k8, f8⟩ := bx1 (HB.out.toExt hx8); obtain ⟨l9, k9, f9⟩ := bx1 (HR5.out.toExt hx8))
        have hX := HXr.out
        refine bodyPost_ret (v := .tuple #[.agg #[.slice none 0 0], .bool false]) (by simp [results, Try.results28, go_sem, *]) rfl (dbRes_none HZ.out rfl (by refine x'z ?_; repeat (with_reducible (first | exact x'a _ _ | exact x'b _ | exact x'c (by assumption) | refine x'd ?_ (by assumption) | refine x'e ?_ _ | refine x'f ?_ _ | refine x'g ?_ | refine x'h ?_ ?_ _ | refine x'i ?_ _ | refine x'j ?_ | refine x'k ?_ _ | refine x'l ?_ _ _ | refine x'm ?_ | assumption | (refine x'n ?_; omega) | omega))))
      | true =>
        obtain ⟨t, ht⟩ : ∃ t, fmtD d = t := ⟨_, rfl⟩
        have HT := Lib.hid ht
        by_cases hts : t = s
        · have q8 := str_bnet hts
          have q9 := str_beqt hts
          have HE4 := Lib.hid (show pDb s = some d by rw [HE3.out, if_pos ⟨htv, ht.trans hts⟩])
          clear ht hts htv
          go_wp2_with (first
            | (go_at_call 60; refine (specIsValidDatabase_w HWD.out HV.out).mono ?_; rintro e w7 ⟨rfl, hx7⟩; rw [HTV.out]; obtain ⟨m8, n8, g8⟩ := bx1 (HB.out.toExt hx7); have hv7 := HV.out.toExt hx7)
            | (go_at_call 16; refine (specFormatDatabase_any HWD.out hv7).mono ?_; rintro e w8 ⟨rfl, hx8'⟩; rw [HT.out]; have hx8 := trans_ext hx7 hx8'; obtain ⟨l8, k8, f8⟩ := bx1 (HB.out.toExt hx8); obtain ⟨l9, k9, f9⟩ := bx1 (HR5.out.toExt hx8)))
          have hX := HXr.out
          have hQ8 : sDb w8 [.slice A d.length c] d F := OD.toExt HQ.out hx8
          refine bodyPost_ret (v := .tuple #[.agg #[.slice A d.length c], .bool true]) (by simp [results, Try.results28, go_sem, *]) rfl ⟨_, F, by rw [HE4.out]; rfl, (by refine x'z ?_; repeat (with_reducible (first | exact x'a _ _ | exact x'b _ | exact x'c (by assumption) | refine x'd ?_ (by assumption) | refine x'e ?_ _ | refine x'f ?_ _ | refine x'g ?_ | refine x'h ?_ ?_ _ | refine x'i ?_ _ | refine x'j ?_ | refine x'k ?_ _ | refine x'l ?_ _ _ | refine x'm ?_ | assumption | (refine x'n ?_; omega) | omega))), by rw [HE4.out]; exact OD.chg (G := [w.heap.size]) hQ8 (by repeat (with_reducible (first | exact Chg.refl _ _ | refine Chg.trans0 ?_ (by assumption) | refine Chg.extS ?_ _ | refine Chg.alloc ?_ _ | refine Chg.drew ?_ | refine Chg.setCell ?_ (.inl (by simp)) _))) (fun b hb h => by have := HFN.out b hb; rw [List.mem_singleton.1 h] at this; omega), HN.out, fun b hb => Nat.le_of_lt (HFN.out b hb)⟩
        · have q8 := str_bnef hts
          have q9 := str_beqf hts
          have HZ := Lib.hid (show pDb s = none by rw [HE3.out, if_neg (fun h => hts (ht.symm.trans h.2))])
          clear ht hts htv
          go_wp2_with (first
            | (go_at_call 60; refine (specIsValidDatabase_w HWD.out HV.out).mono ?_; rintro e w7 ⟨rfl, hx7⟩; rw [HTV.out]; obtain ⟨m8, n8, g8⟩ := bx1 (HB.out.toExt hx7); have hv7 := HV.out.toExt hx7)
            | (go_at_call 16; refine (specFormatDatabase_any HWD.out hv7).mono ?_; rintro e w8 ⟨rfl, hx8'⟩; rw [HT.out]; have hx8 := trans_ext hx7 hx8'; obtain ⟨l8, k8, f8⟩ := bx1 (HB.out.toExt hx8); obtain ⟨l9, k9, f9⟩ := bx1 (HR5.out.toExt hx8)))
          have hX := HXr.out
          refine bodyPost_ret (v := .tuple #[.agg #[.slice none 0 0], .bool false]) (by simp [results, Try.results28, go_sem, *]) rfl (dbRes_none HZ.out rfl (by refine x'z ?_; repeat (with_reducible (first | exact x'a _ _ | exact x'b _ | exact x'c (by assumption) | refine x'd ?_ (by assumption) | refine x'e ?_ _ | refine x'f ?_ _ | refine x'g ?_ | refine x'h ?_ ?_ _ | refine x'i ?_ _ | refine x'j ?_ | refine x'k ?_ _ | refine x'l ?_ _ _ | refine x'm ?_ | assumption | (refine x'n ?_; omega) | omega))))
end Go.Proofs.Ytfigcfajkilhiaa
