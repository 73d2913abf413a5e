/- Contracts of functions that the statements reach, joined from several texts: EqDb, SetPl, BdDb. -/
import Derived.Test.YtfigcfajkilhiaaE04
import Derived.Test.YtfigcfajkilhiaaE02
/- Databases compared: the program's way and the reference's. -/
namespace Go.Proofs.Ytfigcfajkilhiaa
open Go.RowKit
theorem box_2nd {w : World} {cs ds : Array Value} {t t' : TypeId} : BoxAt ((w.alloc (.cells cs t)).alloc (.cells ds t')) (w.heap.size + 1) ds := by
  have h := BoxAt.new (w.alloc (.cells cs t)) ds t'
  rw [World.size_alloc] at h
  exact h
set_option maxRecDepth 100000 in
set_option maxHeartbeats 4000000 in
theorem EqualDatabases_any {A A' : Option Addr} {c c' : Nat} {d d' : Dbd} {w : World} (hx : d.length ≤ 1000000000) (hb : ∀ x ∈ d, BRel x.2) (h1 : RV 3 vTb w A d) (hb' : ∀ x ∈ d', BRel x.2) (h2 : RV 3 vTb w A' d') :
    Calls Try.prog 62 #[.agg #[.slice A d.length c], .agg #[.slice A' d'.length c']] w fun e w' => e = .returned (.bool (decide (d = d'))) ∧ ∃ y, w' = ext w y := by
  have Hxl := Lib.hid hb
  have Hyl := Lib.hid hb'
  clear hb hb'
  go_enter Try.func62, Try.ntmps62
  go_upto_region 1 with fail
  refine wp_name ?_
  intro W hW
  have xW : ∃ y, W = ext w y := by rw [hW.out]; exact (by refine x'z ?_; repeat (with_reducible (first | exact x'a _ _ | exact x'b _ | exact x'c (by assumption) | refine x'd ?_ (by assumption) | refine x'e ?_ _ | refine x'f ?_ _ | refine x'g ?_ | refine x'h ?_ ?_ _ | refine x'i ?_ _ | refine x'j ?_ | refine x'k ?_ _ | refine x'l ?_ _ _ | refine x'm ?_ | assumption | (refine x'n ?_; omega) | omega)))
  have PW : BoxAt W w.heap.size #[.slice A d.length c] := by rw [hW.out]; exact (by repeat (with_reducible (first | assumption | exact BoxAt.new _ _ _ | apply BoxAt.set10 | apply BoxAt.set2 | refine BoxAt.set2' ?_ (by omega) | apply BoxAt.setP0 | apply BoxAt.setP1 | refine BoxAt.setO ?_ (by omega) | refine BoxAt.alloc ?_ _ | refine BoxAt.drew ?_ | refine BoxAt.toExt ?_ (by assumption))))
  have QW : BoxAt W (w.heap.size + 1) #[.slice A' d'.length c'] := by rw [hW.out]; exact box_2nd
  clear hW
  by_cases hl : d.length = d'.length
  · have hn : ((d.length : Int) != (d'.length : Int)) = false := by simp [hl]
    have hl2 : d'.length ≤ d.length := by omega
    have hl3 : d.length ≤ d'.length := by omega
    have HL := Lib.hid hl
    obtain ⟨lp, p0, fp⟩ := bx1 PW
    obtain ⟨lq, q0, fq⟩ := bx1 QW
    clear hl
    go_wp2_with fail
    clear lp p0 fp lq q0 fq
    go_loopw [16] (fun i wr => ∃ k : Nat, i = .int .i64 k ∧ k ≤ d.length ∧ d.take k = d'.take k ∧ ∃ y, wr = ext W y) (fun i _ => d.length - (intOf i).toNat)
    case atStart => exact ⟨0, rfl, by omega, by simp, refl_ext W⟩
    case round => as_aux_lemma =>
      obtain ⟨k, rfl, hk, ht, hy⟩ := hrel
      have Ht := Lib.hid ht
      clear ht
      have hw := trans_ext xW hy
      obtain ⟨lp, p0, fp⟩ := bx1 (PW.toExt hy)
      obtain ⟨lq, q0, fq⟩ := bx1 (QW.toExt hy)
      by_cases hlt : k < d.length
      · have hlt2 : k < d'.length := by omega
        obtain ⟨b, o, A1, c1, rfl, hb, hc, hd, hd2, hv⟩ := (h1.toExt hw).atT hlt
        obtain ⟨b', o', A2, c2, rfl, hb', hc', hd', hd2', hv'⟩ := (h2.toExt hw).atT hlt2
        have q1 := Hxl.out d[k] (List.getElem_mem hlt)
        have q2 := Hyl.out d'[k] (List.getElem_mem hlt2)
        have HS := Lib.hid (fun he : d[k] = d'[k] => take_snoc_eq hlt hlt2 Ht.out he)
        have HNE := Lib.hid (fun he : ¬ d[k] = d'[k] => ne_of_at hlt hlt2 he)
        obtain ⟨x, hx1⟩ : ∃ x, d[k] = x := ⟨_, rfl⟩
        obtain ⟨y, hy1⟩ : ∃ y, d'[k] = y := ⟨_, rfl⟩
        rw [hx1] at hc hd hd2 hv q1 HS HNE
        rw [hy1] at hc' hd' hd2' hv' q2 HS HNE
        clear hx1 hy1
        by_cases hs : x.1 = y.1
        · have hbb : (x.1.toList == y.1.toList) = true := str_beqt hs
          obtain ⟨t, ht⟩ : ∃ t, decide (x.2 = y.2) = t := ⟨_, rfl⟩
          have NT := Lib.hid ht
          have HSS := Lib.hid hs
          clear ht hs
          cases t with
          | true =>
            have hxy : x = y := Prod.ext HSS.out (by simpa using NT.out)
            have HT2 := Lib.hid (HS.out hxy)
            clear hxy
            go_wp2_with fail
            refine wp_region_ext (by kernel_rfl) (by kernel_rfl) ?_
            repeat (go_big_quiet_step ((go_at_call 128; exact quietEb (EqualRelations_any q1 (VMono.ext hv) q2 (VMono.ext hv')) NT.out)))
            refine wpQuiet_nil ?_
            rintro _ ⟨zz, rfl⟩
            go_wp2_with fail
            exact ⟨⟨k + 1, by go_num, by omega, HT2.out, trans_ext hy ⟨zz, rfl⟩⟩, by simp [intOf]; omega⟩
          | false =>
            have HD := Lib.hid (show decide (d = d') = false from decide_eq_false (HNE.out fun e => by have := NT.out; rw [e] at this; simp at this))
            go_wp2_with fail
            refine wp_region_ext (by kernel_rfl) (by kernel_rfl) ?_
            repeat (go_big_quiet_step ((go_at_call 128; exact quietEb (EqualRelations_any q1 (VMono.ext hv) q2 (VMono.ext hv')) NT.out)))
            refine wpQuiet_nil ?_
            rintro _ ⟨zz, rfl⟩
            go_wp2_with fail
            go_ret
            exact ⟨by rw [HD.out]; rfl, trans_ext xW (trans_ext hy ⟨zz, rfl⟩)⟩
        · have hbb : (x.1.toList == y.1.toList) = false := str_beqf hs
          have HD := Lib.hid (show decide (d = d') = false from decide_eq_false (HNE.out fun e => hs (by rw [e])))
          obtain ⟨t, ht⟩ : ∃ t, decide (x.2 = y.2) = t := ⟨_, rfl⟩
          have NT := Lib.hid ht
          clear hs ht
          go_wp2_with fail
          refine wp_region_ext (by kernel_rfl) (by kernel_rfl) ?_
          repeat (go_big_quiet_step ((go_at_call 128; exact quietEb (EqualRelations_any q1 (VMono.ext hv) q2 (VMono.ext hv')) NT.out)))
          refine wpQuiet_nil ?_
          rintro _ ⟨zz, rfl⟩
          go_wp2_with fail
          go_ret
          exact ⟨by rw [HD.out]; rfl, trans_ext xW (trans_ext hy ⟨zz, rfl⟩)⟩
      · have HD := Lib.hid (show decide (d = d') = true from decide_eq_true (all_eq HL.out hlt Ht.out))
        go_wp2_with fail
        go_ret
        exact ⟨by rw [HD.out]; rfl, hw⟩
  · have hn : ((d.length : Int) != (d'.length : Int)) = true := by simp; omega
    obtain ⟨lp, p0, fp⟩ := bx1 PW
    obtain ⟨lq, q0, fq⟩ := bx1 QW
    go_wp2_with fail
    go_ret
    exact ⟨by rw [decide_eq_false (by rintro rfl; exact hl rfl)]; rfl, xW⟩
set_option maxRecDepth 100000 in
set_option maxHeartbeats 4000000 in
theorem specEqualDatabases_any {A A' : Option Addr} {c c' : Nat} {d d' : Dbd} {w : World} (hx : d.length ≤ 1000000000) (hb : ∀ x ∈ d, BRel x.2) (h1 : RV 3 vTb w A d) (hb' : ∀ x ∈ d', BRel x.2) (h2 : RV 3 vTb w A' d') :
    Calls Try.prog 61 #[.agg #[.slice A d.length c], .agg #[.slice A' d'.length c']] w fun e w' => e = .returned (.bool (decide (d = d'))) ∧ ∃ y, w' = ext w y := by
  have Hxl := Lib.hid hb
  have Hyl := Lib.hid hb'
  clear hb hb'
  go_enter Try.func61, Try.ntmps61
  go_upto_region 1 with fail
  refine wp_name ?_
  intro W hW
  have xW : ∃ y, W = ext w y := by rw [hW.out]; exact (by refine x'z ?_; repeat (with_reducible (first | exact x'a _ _ | exact x'b _ | exact x'c (by assumption) | refine x'd ?_ (by assumption) | refine x'e ?_ _ | refine x'f ?_ _ | refine x'g ?_ | refine x'h ?_ ?_ _ | refine x'i ?_ _ | refine x'j ?_ | refine x'k ?_ _ | refine x'l ?_ _ _ | refine x'm ?_ | assumption | (refine x'n ?_; omega) | omega)))
  have PW : BoxAt W w.heap.size #[.slice A d.length c] := by rw [hW.out]; exact (by repeat (with_reducible (first | assumption | exact BoxAt.new _ _ _ | apply BoxAt.set10 | apply BoxAt.set2 | refine BoxAt.set2' ?_ (by omega) | apply BoxAt.setP0 | apply BoxAt.setP1 | refine BoxAt.setO ?_ (by omega) | refine BoxAt.alloc ?_ _ | refine BoxAt.drew ?_ | refine BoxAt.toExt ?_ (by assumption))))
  have QW : BoxAt W (w.heap.size + 1) #[.slice A' d'.length c'] := by rw [hW.out]; exact box_2nd
  clear hW
  by_cases hl : d.length = d'.length
  · have hn : ((d.length : Int) != (d'.length : Int)) = false := by simp [hl]
    have hl2 : d'.length ≤ d.length := by omega
    have hl3 : d.length ≤ d'.length := by omega
    have HL := Lib.hid hl
    obtain ⟨lp, p0, fp⟩ := bx1 PW
    obtain ⟨lq, q0, fq⟩ := bx1 QW
    clear hl
    go_wp2_with fail
    clear lp p0 fp lq q0 fq
    go_loopw [5] (fun i wr => ∃ k : Nat, i = .int .i64 k ∧ k ≤ d.length ∧ d.take k = d'.take k ∧ ∃ y, wr = ext W y) (fun i _ => d.length - (intOf i).toNat)
    case atStart => exact ⟨0, rfl, by omega, by simp, refl_ext W⟩
    case round => as_aux_lemma =>
      obtain ⟨k, rfl, hk, ht, hy⟩ := hrel
      have Ht := Lib.hid ht
      clear ht
      have hw := trans_ext xW hy
      obtain ⟨lp, p0, fp⟩ := bx1 (PW.toExt hy)
      obtain ⟨lq, q0, fq⟩ := bx1 (QW.toExt hy)
      by_cases hlt : k < d.length
      · have hlt2 : k < d'.length := by omega
        obtain ⟨b, o, A1, c1, rfl, hb, hc, hd, hd2, hv⟩ := (h1.toExt hw).atT hlt
        obtain ⟨b', o', A2, c2, rfl, hb', hc', hd', hd2', hv'⟩ := (h2.toExt hw).atT hlt2
        have q1 := Hxl.out d[k] (List.getElem_mem hlt)
        have q2 := Hyl.out d'[k] (List.getElem_mem hlt2)
        have HS := Lib.hid (fun he : d[k] = d'[k] => take_snoc_eq hlt hlt2 Ht.out he)
        have HNE := Lib.hid (fun he : ¬ d[k] = d'[k] => ne_of_at hlt hlt2 he)
        obtain ⟨x, hx1⟩ : ∃ x, d[k] = x := ⟨_, rfl⟩
        obtain ⟨y, hy1⟩ : ∃ y, d'[k] = y := ⟨_, rfl⟩
        rw [hx1] at hc hd hd2 hv q1 HS HNE
        rw [hy1] at hc' hd' hd2' hv' q2 HS HNE
        clear hx1 hy1
        by_cases hs : x.1 = y.1
        · have hbb : (x.1.toList == y.1.toList) = true := str_beqt hs
          obtain ⟨t, ht⟩ : ∃ t, decide (x.2 = y.2) = t := ⟨_, rfl⟩
          have NT := Lib.hid ht
          have HSS := Lib.hid hs
          clear ht hs
          cases t with
          | true =>
            have hxy : x = y := Prod.ext HSS.out (by simpa using NT.out)
            have HT2 := Lib.hid (HS.out hxy)
            clear hxy
            go_wp2_with fail
            refine wp_region_ext (by kernel_rfl) (by kernel_rfl) ?_
            repeat (go_big_quiet_step ((go_at_call 48; exact quietEb (specEqualRelations_any q1 (VMono.ext hv) q2 (VMono.ext hv')) NT.out)))
            refine wpQuiet_nil ?_
            rintro _ ⟨zz, rfl⟩
            go_wp2_with fail
            exact ⟨⟨k + 1, by go_num, by omega, HT2.out, trans_ext hy ⟨zz, rfl⟩⟩, by simp [intOf]; omega⟩
          | false =>
            have HD := Lib.hid (show decide (d = d') = false from decide_eq_false (HNE.out fun e => by have := NT.out; rw [e] at this; simp at this))
            go_wp2_with fail
            refine wp_region_ext (by kernel_rfl) (by kernel_rfl) ?_
            repeat (go_big_quiet_step ((go_at_call 48; exact quietEb (specEqualRelations_any q1 (VMono.ext hv) q2 (VMono.ext hv')) NT.out)))
            refine wpQuiet_nil ?_
            rintro _ ⟨zz, rfl⟩
            go_wp2_with fail
            go_ret
            exact ⟨by rw [HD.out]; rfl, trans_ext xW (trans_ext hy ⟨zz, rfl⟩)⟩
        · have hbb : (x.1.toList == y.1.toList) = false := str_beqf hs
          have HD := Lib.hid (show decide (d = d') = false from decide_eq_false (HNE.out fun e => hs (by rw [e])))
          obtain ⟨t, ht⟩ : ∃ t, decide (x.2 = y.2) = t := ⟨_, rfl⟩
          have NT := Lib.hid ht
          clear hs ht
          go_wp2_with fail
          refine wp_region_ext (by kernel_rfl) (by kernel_rfl) ?_
          repeat (go_big_quiet_step ((go_at_call 48; exact quietEb (specEqualRelations_any q1 (VMono.ext hv) q2 (VMono.ext hv')) NT.out)))
          refine wpQuiet_nil ?_
          rintro _ ⟨zz, rfl⟩
          go_wp2_with fail
          go_ret
          exact ⟨by rw [HD.out]; rfl, trans_ext xW (trans_ext hy ⟨zz, rfl⟩)⟩
      · have HD := Lib.hid (show decide (d = d') = true from decide_eq_true (all_eq HL.out hlt Ht.out))
        go_wp2_with fail
        go_ret
        exact ⟨by rw [HD.out]; rfl, hw⟩
  · have hn : ((d.length : Int) != (d'.length : Int)) = true := by simp; omega
    obtain ⟨lp, p0, fp⟩ := bx1 PW
    obtain ⟨lq, q0, fq⟩ := bx1 QW
    go_wp2_with fail
    go_ret
    exact ⟨by rw [decide_eq_false (by rintro rfl; exact hl rfl)]; rfl, xW⟩
end Go.Proofs.Ytfigcfajkilhiaa

/- A table put into a database: where it goes, and what it holds then. No program in it. -/
namespace Go.Proofs.Ytfigcfajkilhiaa
open Go.RowKit

theorem ins_at {name : ByteArray} {r : Rd} : ∀ {k : Nat} {d : Dbd}, k ≤ d.length → (∀ j, j < k → sLt (d.getD j zT).1 name = true) → insT name r d = d.take k ++ insT name r (d.drop k)
  | 0, d, _, _ => by simp
  | k + 1, [], h, _ => by simp at h
  | k + 1, t :: d, h, hl => by
    have h0 := hl 0 (by omega)
    rw [insT, if_pos (by simpa using h0), List.take_succ_cons, List.drop_succ_cons, List.cons_append, ← ins_at (d := d) (by simpa using h) fun j hj => by simpa using hl (j + 1) (by omega)]
theorem ins_end {name : ByteArray} {r : Rd} {k : Nat} {d : Dbd} (h : k = d.length) (hl : ∀ j, j < k → sLt (d.getD j zT).1 name = true) : insT name r d = d.take k ++ [(name, r)] ++ d.drop k := by
  subst h
  rw [ins_at (Nat.le_refl _) hl, List.drop_length, insT]
  simp
theorem ins_hit {name : ByteArray} {r : Rd} {k : Nat} {d : Dbd} (h : k < d.length) (hl : ∀ j, j < k → sLt (d.getD j zT).1 name = true) (he : d[k].1 = name) : insT name r d = d.set k (name, r) := by
  rw [ins_at (Nat.le_of_lt h) hl, List.drop_eq_getElem_cons h, insT, if_neg (by rw [he, sLt_irr]; decide), if_pos he, List.set_eq_take_append_cons_drop, if_pos h]
theorem ins_new {name : ByteArray} {r : Rd} {k : Nat} {d : Dbd} (h : k < d.length) (hl : ∀ j, j < k → sLt (d.getD j zT).1 name = true) (hn : sLt d[k].1 name = false) (he : d[k].1 ≠ name) : insT name r d = d.take k ++ [(name, r)] ++ d.drop k := by
  rw [ins_at (Nat.le_of_lt h) hl, List.drop_eq_getElem_cons h, insT, if_neg (by simp [hn]), if_neg he]
  simp
theorem insT_length (name : ByteArray) (r : Rd) : ∀ d : Dbd, (insT name r d).length ≤ d.length + 1
  | [] => by simp [insT]
  | t :: d => by
    have := insT_length name r d
    rw [insT]
    split
    · simp; omega
    · split <;> simp
theorem mem_insT {name : ByteArray} {r : Rd} {x : Td} : ∀ {d : Dbd}, x ∈ insT name r d → x = (name, r) ∨ x ∈ d
  | [], h => by simpa [insT] using h
  | t :: d, h => by
    rw [insT] at h
    split at h
    · rcases List.mem_cons.1 h with e | e
      · exact .inr (by simp [e])
      · rcases mem_insT e with e | e
        · exact .inl e
        · exact .inr (by simp [e])
    · split at h
      · rcases List.mem_cons.1 h with e | e
        · exact .inl e
        · exact .inr (by simp [e])
      · rcases List.mem_cons.1 h with e | e
        · exact .inl e
        · exact .inr e
theorem setD_bad {d : Dbd} {name : ByteArray} {r : Rd} (h : dbB d = false) : setD d name r = (d, false) := by
  unfold setD
  rw [if_neg (by simp [h])]
theorem setD_no {d : Dbd} {name : ByteArray} {r : Rd} (h : dbB (insT name r d) = false) : setD d name r = (d, false) := by
  unfold setD
  rw [if_neg (by simp [h])]
theorem setD_yes {d : Dbd} {name : ByteArray} {r : Rd} (h : dbB d = true) (h2 : dbB (insT name r d) = true) : setD d name r = (insT name r d, true) := by
  unfold setD
  rw [if_pos ⟨h, h2⟩]
/-! the reference's way, table by table -/
def sAdd (name : ByteArray) (r : Rd) (put : Bool) (t : Td) : Dbd := (if put = false ∧ sLt t.1 name = false then [(name, r)] else []) ++ (if t.1 = name then [] else [t])
def sPre (name : ByteArray) (r : Rd) : Bool → Dbd → Dbd × Bool
  | put, [] => ([], put)
  | put, t :: d => (sAdd name r put t ++ (sPre name r (put || !sLt t.1 name) d).1, (sPre name r (put || !sLt t.1 name) d).2)
theorem sIns_pre {name : ByteArray} {r : Rd} : ∀ {put : Bool} {d : Dbd}, sIns name r put d = (sPre name r put d).1 ++ (if (sPre name r put d).2 = true then [] else [(name, r)])
  | put, [] => by cases put <;> simp [sIns, sPre]
  | put, t :: d => by
    rw [sIns, sPre, sIns_pre (d := d)]
    simp [sAdd]
theorem sPre_snoc {name : ByteArray} {r : Rd} {t : Td} : ∀ {put : Bool} {d : Dbd}, sPre name r put (d ++ [t]) = ((sPre name r put d).1 ++ sAdd name r (sPre name r put d).2 t, (sPre name r put d).2 || !sLt t.1 name)
  | put, [] => by simp [sPre]
  | put, u :: d => by
    rw [List.cons_append, sPre, sPre_snoc (d := d), sPre]
    simp
theorem sPre_take {name : ByteArray} {r : Rd} {d : Dbd} {k : Nat} (h : k < d.length) : sPre name r false (d.take (k + 1)) = ((sPre name r false (d.take k)).1 ++ sAdd name r (sPre name r false (d.take k)).2 d[k], (sPre name r false (d.take k)).2 || !sLt d[k].1 name) := by
  rw [List.take_succ_eq_append_getElem h, sPre_snoc]
theorem sPre_length {name : ByteArray} {r : Rd} : ∀ {put : Bool} {d : Dbd}, (sPre name r put d).1.length + (if put = true then 1 else 0) ≤ d.length + 1
  | put, [] => by simp [sPre]; split <;> omega
  | put, t :: d => by
    have := sPre_length (name := name) (r := r) (put := put || !sLt t.1 name) (d := d)
    rw [sPre]
    unfold sAdd
    simp only [List.length_append, List.length_cons]
    by_cases he : t.1 = name
    · rw [he, sLt_irr] at this ⊢
      cases put <;> simp at this ⊢ <;> omega
    · cases put <;> cases hs : sLt t.1 name <;> simp [hs, he] at this ⊢ <;> omega
theorem mem_sPre {name : ByteArray} {r : Rd} {x : Td} : ∀ {put : Bool} {d : Dbd}, x ∈ (sPre name r put d).1 → x = (name, r) ∨ x ∈ d
  | put, [], h => by simp [sPre] at h
  | put, t :: d, h => by
    rw [sPre] at h
    rcases List.mem_append.1 h with h | h
    · unfold sAdd at h
      rcases List.mem_append.1 h with h | h
      · split at h
        · exact .inl (List.mem_singleton.1 h)
        · cases h
      · split at h
        · cases h
        · exact .inr (by simp [List.mem_singleton.1 h])
    · rcases mem_sPre h with e | e
      · exact .inl e
      · exact .inr (by simp [e])
/-- the reference's test gives the same, whatever the database -/
theorem setD_ref {d : Dbd} {name : ByteArray} {r : Rd} : setD d name r = if dbB d = true ∧ dbB (sIns name r false d) = true then (sIns name r false d, true) else (d, false) := by
  by_cases h : dbB d = true
  · rw [sIns_eq (dbB_iff.1 h).2.2]
    rfl
  · rw [setD_bad (by simpa using h), if_neg (fun k => h k.1)]
end Go.Proofs.Ytfigcfajkilhiaa

/- Bounds of databases that are made. -/
namespace Go.Proofs.Ytfigcfajkilhiaa
open Go.RowKit
theorem sumT_le {m : Nat} : ∀ {l : Dbd}, (∀ x ∈ l, cTb x ≤ m) → (l.map cTb).sum ≤ m * l.length
  | [], _ => by simp
  | x :: l, h => by
    have h1 := h x (by simp)
    have h2 := sumT_le (l := l) fun y hy => h y (by simp [hy])
    rw [List.map_cons, List.sum_cons, List.length_cons, Nat.mul_add]
    omega
theorem sumL_le {m : Nat} : ∀ {l : List (List Int)}, (∀ x ∈ l, x.length ≤ m) → (l.map List.length).sum ≤ m * l.length
  | [], _ => by simp
  | x :: l, h => by
    have h1 := h x (by simp)
    have h2 := sumL_le (l := l) fun y hy => h y (by simp [hy])
    rw [List.map_cons, List.sum_cons, List.length_cons, Nat.mul_add]
    omega
theorem db_bd {d : Dbd} (h : dbB d = true) : BDb d := by
  obtain ⟨h1, h2, _⟩ := dbB_iff.1 h
  have h3 : ∀ x ∈ d, cTb x ≤ 100 := fun x hx => by
    have ht := h2 x hx
    have hs := rowsB_sz ht.rel
    have hc := ht.cnt
    have hn : x.1.size ≤ 4 := by
      have := ht.nm
      unfold nameB at this
      rw [Bool.and_eq_true] at this
      have := inB_t this.1
      omega
    have hr := sumL_le hs.rl
    unfold cTb
    omega
  have h4 := sumT_le h3
  exact ⟨⟨by omega, by omega⟩, fun x hx => (rowsB_sz (h2 x hx).rel).a⟩
theorem pDb_bd (s : ByteArray) : BDb ((pDb s).getD []) := by
  cases h : pDb s with
  | none => exact ⟨⟨by decide, by decide⟩, by simp⟩
  | some d => exact db_bd (pDb_some h).1
theorem setD_bd {d : Dbd} (hd : BDb d) (name : ByteArray) (r : Rd) : BDb (setD d name r).1 := by
  unfold setD
  split
  · rename_i h
    exact db_bd h.2
  · exact hd
end Go.Proofs.Ytfigcfajkilhiaa
