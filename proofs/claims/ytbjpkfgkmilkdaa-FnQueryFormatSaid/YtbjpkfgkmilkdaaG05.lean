/- Contracts of functions that the statement reaches. -/
import Derived.Test.YtbjpkfgkmilkdaaG01
import Derived.Test.YtbjpkfgkmilkdaaRows
import Derived.Deep.RegionLaw
import Derived.Test.YtbjpkfgkmilkdaaG04
import Derived.Test.YtbjpkfgkmilkdaaG03
namespace Go.Proofs.Ytbjpkfgkmilkdaa
open Go.RowKit
theorem str_beqf {s t : ByteArray} (h : s ≠ t) : (s.toList == t.toList) = false := by rw [str_beq, decide_eq_false h]
theorem str_beqt {s t : ByteArray} (h : s = t) : (s.toList == t.toList) = true := by rw [str_beq, decide_eq_true h]
theorem str_bnef {s t : ByteArray} (h : s ≠ t) : (s.toList != t.toList) = true := by rw [bne, str_beqf h]; rfl
theorem str_bnet {s t : ByteArray} (h : s = t) : (s.toList != t.toList) = false := by rw [bne, str_beqt h]; rfl
end Go.Proofs.Ytbjpkfgkmilkdaa
namespace Go.Proofs.Ytbjpkfgkmilkdaa
open Go.RowKit
theorem tS : SlT Try.prog 84 9 1 16 (.string ⟨#[]⟩) := ⟨Try.underlying84, by kernel_rfl, rfl, by omega⟩
def joinF (sep : ByteArray) : Nat → ByteArray → List ByteArray → ByteArray
  | _, acc, [] => acc
  | k, acc, p :: ps => joinF sep (k + 1) ((if 0 < k then acc ++ sep else acc) ++ p) ps
theorem joinF_step {sep acc : ByteArray} {ps : List ByteArray} {k : Nat} (h : k < ps.length) : joinF sep k acc (ps.drop k) = joinF sep (k + 1) ((if 0 < k then acc ++ sep else acc) ++ ps[k]) (ps.drop (k + 1)) := by
  rw [List.drop_eq_getElem_cons h, joinF]
set_option maxHeartbeats 1000000 in
theorem join_any {A : Option Addr} {c : Nat} {ps : List ByteArray} {sep : ByteArray} {w : World} (hx : ps.length ≤ 1000000000) (h1 : RS w A ps) (hs : sep.size ≤ 1000000000) (hp : ∀ j (h : j < ps.length), ps[j].size ≤ 1000000000) :
    Calls Try.prog 63 #[.slice A ps.length c, .string sep] w fun e w' => e = .returned (.string (joinF sep 0 ⟨#[]⟩ ps)) ∧ ∃ y, w' = ext w y := by
  have Hp := Lib.hid hp
  clear hp
  go_enter Try.func63, Try.ntmps63
  go_wp2
  go_loopw [5, 10] (fun o i wr => ∃ (k : Nat) (acc : ByteArray), o = .string acc ∧ i = .int .i64 k ∧ k ≤ ps.length ∧ acc.size ≤ 2000000000 * k ∧ joinF sep k acc (ps.drop k) = joinF sep 0 ⟨#[]⟩ ps ∧ ∃ y, wr = ext w y) (fun _ i _ => ps.length - (intOf i).toNat)
  case atStart => exact ⟨0, ⟨#[]⟩, rfl, rfl, by omega, by decide, by simp, refl_ext w⟩
  case round =>
    obtain ⟨k, acc, rfl, rfl, hk, ha, hj, hy⟩ := hrel
    have Hj := Lib.hid hj
    clear hj
    have h1' := h1.toExt hy
    by_cases hlt : k < ps.length
    · have hpk := Hp.out k hlt
      have e := Hj.out
      rw [joinF_step hlt] at e
      have He := Lib.hid e
      clear e
      obtain ⟨b, o, rfl, hb, hc⟩ := h1'.atS hlt
      have hsa := ba_size acc sep
      have hsb := ba_size (acc ++ sep) ps[k]
      have hsc := ba_size acc ps[k]
      by_cases h0 : 0 < k
      · have e := He.out
        rw [if_pos h0] at e
        have He := Lib.hid e
        clear e
        go_wp2
        exact ⟨⟨k + 1, acc ++ sep ++ ps[k], rfl, by go_num, by omega, by omega, He.out, hy⟩, by simp [intOf]; omega⟩
      · have e := He.out
        rw [if_neg h0] at e
        have He := Lib.hid e
        clear e
        go_wp2
        exact ⟨⟨k + 1, acc ++ ps[k], rfl, by go_num, by omega, by omega, He.out, hy⟩, by simp [intOf]; omega⟩
    · go_wp2
      go_ret
      have e := Hj.out
      rw [List.drop_eq_nil_of_le (by omega), joinF] at e
      exact ⟨by rw [← e]; rfl, hy⟩
theorem join_n {A : Option Addr} {c n : Nat} {ps : List ByteArray} {sep : ByteArray} {w : World} (hn : ps.length = n) (hx : n ≤ 1000000000) (h1 : RS w A ps) (hs : sep.size ≤ 1000000000) (hp : ∀ j (h : j < ps.length), ps[j].size ≤ 1000000000) :
    Calls Try.prog 63 #[.slice A n c, .string sep] w fun e w' => e = .returned (.string (joinF sep 0 ⟨#[]⟩ ps)) ∧ ∃ y, w' = ext w y := by
  subst hn
  exact join_any hx h1 hs hp
end Go.Proofs.Ytbjpkfgkmilkdaa
namespace Go.Proofs.Ytbjpkfgkmilkdaa
open Go.RowKit
theorem ba_assoc (a b c : ByteArray) : a ++ b ++ c = a ++ (b ++ c) := bl_inj (by simp [bl])
theorem ba_nil (a : ByteArray) : a ++ ⟨#[]⟩ = a := bl_inj (by simp [bl])
theorem nil_ba (a : ByteArray) : ⟨#[]⟩ ++ a = a := bl_inj (by simp [bl])
def nmG : ByteArray → List Int → ByteArray
  | acc, [] => acc
  | acc, v :: vs => nmG (acc ++ vname v) vs
def names (l : List Int) : ByteArray := nmG ⟨#[]⟩ l
theorem nmG_eq : ∀ (l : List Int) (acc : ByteArray), nmG acc l = acc ++ names l
  | [], acc => by rw [names, nmG, nmG, ba_nil]
  | v :: vs, acc => by
    have e : names (v :: vs) = vname v ++ names vs := by
      show nmG (⟨#[]⟩ ++ vname v) vs = _
      rw [nil_ba, nmG_eq vs]
    rw [nmG, nmG_eq vs, e, ba_assoc]
theorem nmG_step {acc : ByteArray} {l : List Int} {k : Nat} (h : k < l.length) : nmG acc (l.drop k) = nmG (acc ++ vname l[k]) (l.drop (k + 1)) := by
  rw [List.drop_eq_getElem_cons h, nmG]
theorem nmG_end {acc : ByteArray} {l : List Int} {k : Nat} (h : ¬ k < l.length) : nmG acc (l.drop k) = acc := by
  rw [List.drop_eq_nil_of_le (by omega), nmG]
theorem vname_size (v : Int) : (vname v).size ≤ 1 := by
  unfold vname
  split
  · rw [ByteArray.size_extract]; omega
  · decide
theorem names_size : ∀ (l : List Int), (names l).size ≤ l.length
  | [] => by decide
  | v :: vs => by
    have h1 := names_size vs
    have h2 := vname_size v
    rw [show names (v :: vs) = nmG (⟨#[]⟩ ++ vname v) vs from rfl, nil_ba, nmG_eq, ba_size, List.length_cons]
    omega
def par (l : List Int) : ByteArray := ⟨#[40]⟩ ++ names l ++ ⟨#[41]⟩
def atomT (x : At) : ByteArray := x.1 ++ ⟨#[40]⟩ ++ names x.2 ++ ⟨#[41]⟩
def fmtQ (d : Qd) : ByteArray := if vqB d = true then ⟨#[40]⟩ ++ names d.2.2 ++ ⟨#[41, 61]⟩ ++ joinF ⟨#[44]⟩ 0 ⟨#[]⟩ (d.2.1.map atomT) else ⟨#[]⟩
theorem atomT_par (x : At) : x.1 ++ par x.2 = atomT x := by unfold par atomT; simp only [ba_assoc]
theorem joinF_acc (sep : ByteArray) : ∀ (ps : List ByteArray) (k : Nat) (acc : ByteArray), joinF sep k acc ps = acc ++ joinF sep k ⟨#[]⟩ ps
  | [], k, acc => by rw [joinF, joinF, ba_nil]
  | p :: ps, k, acc => by
    rw [joinF, joinF, joinF_acc sep ps, joinF_acc sep ps (k + 1) ((if 0 < k then ⟨#[]⟩ ++ sep else ⟨#[]⟩) ++ p)]
    split
    · simp only [nil_ba, ba_assoc]
    · simp only [nil_ba, ba_assoc]
theorem fmtQ_par {d : Qd} (h : vqB d = true) : joinF ⟨#[44]⟩ 0 (par d.2.2 ++ ⟨#[61]⟩) (d.2.1.map atomT) = fmtQ d := by
  unfold fmtQ
  rw [if_pos h, joinF_acc]
  congr 1
  unfold par
  rw [ba_assoc, show (⟨#[41]⟩ ++ ⟨#[61]⟩ : ByteArray) = ⟨#[41, 61]⟩ from rfl]
theorem vqB_facts {d : Qd} (h : vqB d = true) : d.2.1.length ≤ 4 ∧ d.2.2.length ≤ 5 ∧ ∀ x ∈ d.2.1, x.1.size ≤ 4 ∧ x.2.length ≤ 5 := by
  unfold vqB at h
  simp only [Bool.and_eq_true, List.all_eq_true] at h
  obtain ⟨⟨⟨⟨h1, h2⟩, h3⟩, h4⟩, _⟩ := h
  have h1 := inB_t h1
  have h2 := inB_t h2
  have h3 := setB_len h3 (by omega)
  refine ⟨by omega, by omega, fun x hx => ?_⟩
  have h5 := h4 x hx
  unfold atomB nameB at h5
  simp only [Bool.and_eq_true] at h5
  obtain ⟨⟨⟨h6, _⟩, h7⟩, _⟩ := h5
  have h6 := inB_t h6
  have h7 := inB_t h7
  omega
theorem atomT_size {x : At} (h1 : x.1.size ≤ 4) (h2 : x.2.length ≤ 5) : (atomT x).size ≤ 20 := by
  have := names_size x.2
  unfold atomT
  rw [ba_size, ba_size, ba_size, show (ByteArray.mk #[40]).size = 1 from rfl, show (ByteArray.mk #[41]).size = 1 from rfl]
  omega
theorem joinF_size (m : Nat) : ∀ (ps : List ByteArray) (k : Nat) (acc : ByteArray), (∀ p ∈ ps, p.size ≤ m) → (joinF ⟨#[44]⟩ k acc ps).size ≤ acc.size + ps.length * (m + 1)
  | [], k, acc, _ => by simp [joinF]
  | p :: ps, k, acc, h => by
    have h1 := h p (by simp)
    have ih := joinF_size m ps (k + 1) ((if 0 < k then acc ++ ⟨#[44]⟩ else acc) ++ p) fun q hq => h q (by simp [hq])
    have h2 : ((if 0 < k then acc ++ ⟨#[44]⟩ else acc) ++ p).size ≤ acc.size + 1 + p.size := by
      rw [ba_size]
      split
      · rw [ba_size, show (ByteArray.mk #[44]).size = 1 from rfl]; omega
      · omega
    rw [joinF, List.length_cons, Nat.add_mul]
    omega
set_option maxHeartbeats 400000 in
theorem namesOf_any {A : Option Addr} {c : Nat} {xs : List Int} {w : World} (hx : xs.length ≤ 1000000) (h1 : RI w A xs) :
    Calls Try.prog 62 #[.slice A xs.length c] w fun e w' => e = .returned (.string (names xs)) ∧ ∃ y, w' = ext w y := by
  go_enter Try.func62, Try.ntmps62
  go_wp2
  go_loopw [3, 8] (fun s i wr => ∃ (k : Nat) (acc : ByteArray), s = .string acc ∧ i = .int .i64 k ∧ k ≤ xs.length ∧ acc.size ≤ k ∧ nmG acc (xs.drop k) = names xs ∧ ∃ y, wr = ext w y) (fun _ i _ => xs.length - (intOf i).toNat)
  case atStart => exact ⟨0, ⟨#[]⟩, rfl, rfl, by omega, by decide, by simp [names], refl_ext w⟩
  case round =>
    obtain ⟨k, acc, rfl, rfl, hk, ha, hj, hy⟩ := hrel
    have Hj := Lib.hid hj
    clear hj
    by_cases hlt : k < xs.length
    · obtain ⟨b, o, rfl, hb, hc⟩ := (h1.toExt hy).atI hlt
      have hs := vname_size xs[k]
      have hss := ba_size acc (vname xs[k])
      have He := Lib.hid ((nmG_step hlt).symm.trans Hj.out)
      go_wp2_with (go_at_call 101; refine (VariableName_any _ _).mono ?_; rintro e w' ⟨rfl, rfl⟩)
      exact ⟨⟨k + 1, acc ++ vname xs[k], rfl, by go_num, by omega, by omega, He.out, hy⟩, by simp [intOf]; omega⟩
    · have e := Hj.out
      rw [nmG_end hlt] at e
      have He := Lib.hid e
      clear e
      go_wp2
      go_ret
      exact ⟨by rw [← He.out]; rfl, hy⟩
set_option maxHeartbeats 400000 in
theorem l7Vars_any {A : Option Addr} {c : Nat} {xs : List Int} {w : World} (hx : xs.length ≤ 1000000) (h1 : RI w A xs) :
    Calls Try.prog 102 #[.slice A xs.length c] w fun e w' => e = .returned (.string (par xs)) ∧ ∃ y, w' = ext w y := by
  go_enter Try.func102, Try.ntmps102
  go_wp2
  go_loopw [3, 4] (fun s i wr => ∃ (k : Nat) (acc : ByteArray), s = .string acc ∧ i = .int .i64 k ∧ k ≤ xs.length ∧ acc.size ≤ k + 1 ∧ nmG acc (xs.drop k) = ⟨#[40]⟩ ++ names xs ∧ ∃ y, wr = ext w y) (fun _ i _ => xs.length - (intOf i).toNat)
  case atStart => exact ⟨0, ⟨#[40]⟩, rfl, rfl, by omega, by decide, by rw [List.drop_zero, nmG_eq], refl_ext w⟩
  case round =>
    obtain ⟨k, acc, rfl, rfl, hk, ha, hj, hy⟩ := hrel
    have Hj := Lib.hid hj
    clear hj
    by_cases hlt : k < xs.length
    · obtain ⟨b, o, rfl, hb, hc⟩ := (h1.toExt hy).atI hlt
      have hs := vname_size xs[k]
      have hss := ba_size acc (vname xs[k])
      have He := Lib.hid ((nmG_step hlt).symm.trans Hj.out)
      go_wp2_with (go_at_call 70; refine (specVariableName_any _ _).mono ?_; rintro e w' ⟨rfl, rfl⟩)
      exact ⟨⟨k + 1, acc ++ vname xs[k], rfl, by go_num, by omega, by omega, He.out, hy⟩, by simp [intOf]; omega⟩
    · have e := Hj.out
      rw [nmG_end hlt] at e
      have He := Lib.hid (show acc ++ ⟨#[41]⟩ = par xs by rw [e]; rfl)
      have h41 : (ByteArray.mk #[41]).size = 1 := rfl
      clear e
      go_wp2
      go_ret
      exact ⟨by rw [← He.out]; rfl, hy⟩
set_option maxRecDepth 100000 in
set_option maxHeartbeats 4000000 in
theorem FormatQuery_w {A B : Option Addr} {c e1 : Nat} {d : Qd} {w : World} (hb : WQ d) (h : vQ w [.int .i64 d.1, .slice A d.2.1.length c, .slice B d.2.2.length e1] d) :
    Calls Try.prog 24 #[.agg #[.int .i64 d.1, .slice A d.2.1.length c, .slice B d.2.2.length e1]] w fun e w' => e = .returned (.string (fmtQ d)) ∧ ∃ y, w' = ext w y := by
  have HB := Lib.hid hb
  have HV := Lib.hid h
  obtain ⟨r1, r2, _⟩ := vQ_get h
  have r1 := (vAts_get r1).2
  obtain ⟨z, ats, out⟩ := d
  dsimp only at r1 r2 ⊢
  clear h hb
  obtain ⟨t1, ht1⟩ : ∃ t, vqB (z, ats, out) = t := ⟨_, rfl⟩
  have N1 := Lib.hid ht1
  cases t1 with
  | false =>
    have HE := Lib.hid (show fmtQ (z, ats, out) = ⟨#[]⟩ by unfold fmtQ; rw [ht1]; rfl)
    clear ht1
    go_enter Try.func24, Try.ntmps24
    go_wp2_with (go_at_call 29; refine (IsValidQuery_w (d := (z, ats, out)) HB.out (VD.toExt HV.out (by refine x'z ?_; repeat (with_reducible (first | exact x'a _ _ | exact x'b _ | exact x'c (by assumption) | refine x'd ?_ (by assumption) | refine x'e ?_ _ | refine x'f ?_ _ | refine x'g ?_ | refine x'h ?_ ?_ _ | refine x'i ?_ _ | refine x'j ?_ | refine x'k ?_ _ | refine x'l ?_ _ _ | refine x'm ?_ | assumption | (refine x'n ?_; omega) | omega))))).mono ?_; rintro e w1 ⟨rfl, hx1⟩; rw [N1.out])
    go_ret
    exact ⟨by rw [HE.out]; rfl, (by refine x'z ?_; repeat (with_reducible (first | exact x'a _ _ | exact x'b _ | exact x'c (by assumption) | refine x'd ?_ (by assumption) | refine x'e ?_ _ | refine x'f ?_ _ | refine x'g ?_ | refine x'h ?_ ?_ _ | refine x'i ?_ _ | refine x'j ?_ | refine x'k ?_ _ | refine x'l ?_ _ _ | refine x'm ?_ | assumption | (refine x'n ?_; omega) | omega)))⟩
  | true =>
    have HE := Lib.hid (show fmtQ (z, ats, out) = ⟨#[40]⟩ ++ names out ++ ⟨#[41, 61]⟩ ++ joinF ⟨#[44]⟩ 0 ⟨#[]⟩ (ats.map atomT) by unfold fmtQ; rw [if_pos ht1])
    obtain ⟨g1, g2, g3⟩ := vqB_facts ht1
    dsimp only at g1 g2 g3
    have Hx := Lib.hid g3
    clear ht1 g3
    go_enter Try.func24, Try.ntmps24
    go_wp2_with (go_at_call 29; refine (IsValidQuery_w (d := (z, ats, out)) HB.out (VD.toExt HV.out (by refine x'z ?_; repeat (with_reducible (first | exact x'a _ _ | exact x'b _ | exact x'c (by assumption) | refine x'd ?_ (by assumption) | refine x'e ?_ _ | refine x'f ?_ _ | refine x'g ?_ | refine x'h ?_ ?_ _ | refine x'i ?_ _ | refine x'j ?_ | refine x'k ?_ _ | refine x'l ?_ _ _ | refine x'm ?_ | assumption | (refine x'n ?_; omega) | omega))))).mono ?_; rintro e w1 ⟨rfl, hx1⟩; rw [N1.out]; have P1 := (BoxAt.new w #[.int .i64 z, .slice A ats.length c, .slice B out.length e1] 44).toExt hx1; obtain ⟨l1, a1, a1', a1'', f1⟩ := box3 P1)
    have hxw : ∃ y, w1 = ext w y := (by refine x'z ?_; repeat (with_reducible (first | exact x'a _ _ | exact x'b _ | exact x'c (by assumption) | refine x'd ?_ (by assumption) | refine x'e ?_ _ | refine x'f ?_ _ | refine x'g ?_ | refine x'h ?_ ?_ _ | refine x'i ?_ _ | refine x'j ?_ | refine x'k ?_ _ | refine x'l ?_ _ _ | refine x'm ?_ | assumption | (refine x'n ?_; omega) | omega)))
    go_loopw [3, 12] (fun v i wr => ∃ (k : Nat) (F : List Nat), i = .int .i64 k ∧ k ≤ ats.length ∧ SV 9 1 sS wr v ((ats.take k).map atomT) F ∧ (∀ b ∈ F, w1.heap.size ≤ b) ∧ ∃ y, wr = ext w1 y) (fun _ i _ => ats.length - (intOf i).toNat)
    case atStart => exact ⟨0, [], rfl, by omega, SV.nil, by simp, refl_ext _⟩
    case round =>
      obtain ⟨k, F, rfl, hk, hS, hF, hy⟩ := hrel
      have HF := Lib.hid hF
      clear hF
      by_cases hlt : k < ats.length
      · obtain ⟨b, o, A', c', rfl, hb, hc, hd, hv⟩ := (r1.toExt (trans_ext hxw hy)).atA hlt
        obtain ⟨x1, x2⟩ := Hx.out ats[k] (List.getElem_mem hlt)
        obtain ⟨T, hT⟩ : ∃ T, atomT ats[k] = T := ⟨_, rfl⟩
        have HS := Lib.hid (show ((ats.take k).map atomT) ++ [T] = (ats.take (k + 1)).map atomT by rw [List.take_succ_eq_append_getElem hlt, List.map_append, ← hT]; rfl)
        have hlk : ((ats.take k).map atomT).length + 1 ≤ 2000000000 := by simp; omega
        obtain ⟨s, hs⟩ : ∃ s, ats[k].1 = s := ⟨_, rfl⟩
        obtain ⟨xs, hxs⟩ : ∃ xs, ats[k].2 = xs := ⟨_, rfl⟩
        have HA := Lib.hid (show s ++ ⟨#[40]⟩ ++ names xs ++ ⟨#[41]⟩ = T by rw [← hT]; unfold atomT; rw [hs, hxs])
        rw [hs] at hc x1
        rw [hxs] at hd hv x2
        have z1 := names_size xs
        have z2 := ba_size s ⟨#[40]⟩
        have z3 := ba_size (s ++ ⟨#[40]⟩) (names xs)
        have z4 := ba_size (s ++ ⟨#[40]⟩ ++ names xs) ⟨#[41]⟩
        have z5 : (ByteArray.mk #[40]).size = 1 := rfl
        have z6 : (ByteArray.mk #[41]).size = 1 := rfl
        have y2 : ¬ (9223372036854775807 < s.size + 1) := by omega
        have y6 : ¬ (9223372036854775807 < s.size + 1 + (names xs).size) := by omega
        have y7 : ¬ (9223372036854775807 < s.size + 1 + (names xs).size + 1) := by omega
        have k00 : (wr.alloc (.cells #[.string s, .slice A' xs.length c'] 89)).cell? ⟨wr.heap.size, 0, none⟩ = some (.string s) := by simp
        have k01 : (wr.alloc (.cells #[.string s, .slice A' xs.length c'] 89)).cell? ⟨wr.heap.size, 1, none⟩ = some (.slice A' xs.length c') := by simp
        have hnF : wr.heap.size ∉ F := fun h => by have := hS.lt _ h; omega
        clear hs hxs hT
        go_wp2_with fail
        go_region_held3 (fun w' => w'.cell? ⟨wr.heap.size, 0, none⟩ = some (.string s) ∧ w'.cell? ⟨wr.heap.size, 1, none⟩ = some (.slice A' xs.length c')) (first | go_keep | exact ⟨k0, k1⟩ | (refine ⟨?_, ?_⟩ <;> (rw [hC'.cell hnF kl]; assumption)))
          (first
            | (go_at_call 62; refine (namesOf_any (by omega) (hv.toExt (by refine x'z ?_; repeat (with_reducible (first | exact x'a _ _ | exact x'b _ | exact x'c (by assumption) | refine x'd ?_ (by assumption) | refine x'e ?_ _ | refine x'f ?_ _ | refine x'g ?_ | refine x'h ?_ ?_ _ | refine x'i ?_ _ | refine x'j ?_ | refine x'k ?_ _ | refine x'l ?_ _ _ | refine x'm ?_ | assumption | (refine x'n ?_; omega) | omega))))).mono ?_; rintro e w2 ⟨rfl, hx2⟩; have k0 : w2.cell? ⟨wr.heap.size, 0, none⟩ = some (.string s) := (by obtain ⟨y, e⟩ := hx2; rw [e, cell_ext (by simp)]; simp); have k1 : w2.cell? ⟨wr.heap.size, 1, none⟩ = some (.slice A' xs.length c') := (by obtain ⟨y, e⟩ := hx2; rw [e, cell_ext (by simp)]; simp); have kl : wr.heap.size < w2.heap.size := (by obtain ⟨y, e⟩ := hx2; rw [e]; exact lt_ext (by simp)))
            | (refine step_app1 (E := sS) (d := T) (by rfl) _ _ _ (by rfl) tS (by rfl) (by rfl) (by rfl) (by simp) (fun _ => ⟨by rw [HA.out], rfl⟩) (by rfl) (by simp [Value.oneCell']) (hS.toExt (by refine x'z ?_; repeat (with_reducible (first | exact x'a _ _ | exact x'b _ | exact x'c (by assumption) | refine x'd ?_ (by assumption) | refine x'e ?_ _ | refine x'f ?_ _ | refine x'g ?_ | refine x'h ?_ ?_ _ | refine x'i ?_ _ | refine x'j ?_ | refine x'k ?_ _ | refine x'l ?_ _ _ | refine x'm ?_ | assumption | (refine x'n ?_; omega) | omega)))) hlk (by omega) ?_; intro v' w' F' hS' hC' hF'))
        all_goals
          go_wp2
          exact ⟨⟨k + 1, F', by go_num, by omega, by rw [← HS.out]; exact hS', newer HF.out (size_of_ext (by refine x'z ?_; repeat (with_reducible (first | exact x'a _ _ | exact x'b _ | exact x'c (by assumption) | refine x'd ?_ (by assumption) | refine x'e ?_ _ | refine x'f ?_ _ | refine x'g ?_ | refine x'h ?_ ?_ _ | refine x'i ?_ _ | refine x'j ?_ | refine x'k ?_ _ | refine x'l ?_ _ _ | refine x'm ?_ | assumption | (refine x'n ?_; omega) | omega)))) hF', hC'.isExt (by refine x'z ?_; repeat (with_reducible (first | exact x'a _ _ | exact x'b _ | exact x'c (by assumption) | refine x'd ?_ (by assumption) | refine x'e ?_ _ | refine x'f ?_ _ | refine x'g ?_ | refine x'h ?_ ?_ _ | refine x'i ?_ _ | refine x'j ?_ | refine x'k ?_ _ | refine x'l ?_ _ _ | refine x'm ?_ | assumption | (refine x'n ?_; omega) | omega))) HF.out⟩, by simp [intOf]; omega⟩
      · rw [List.take_of_length_le (by omega)] at hS
        obtain ⟨A2, c2, rfl, _, _, hV⟩ := hS.view sS_v
        obtain ⟨l2, a2, a2', a2'', f2⟩ := box3 (P1.toExt hy)
        have HJ := Lib.hid (show ∀ j (h : j < (ats.map atomT).length), (ats.map atomT)[j].size ≤ 1000000000 by
          intro j h
          have h' : j < ats.length := by simpa using h
          obtain ⟨x1, x2⟩ := Hx.out ats[j] (List.getElem_mem h')
          have := atomT_size x1 x2
          simp
          omega)
        rw [List.length_map] at *
        have z1 := names_size out
        have z5 : (ByteArray.mk #[40]).size = 1 := rfl
        have z6 : (ByteArray.mk #[41, 61]).size = 2 := rfl
        have z2 := ba_size ⟨#[40]⟩ (names out)
        have z3 := ba_size (⟨#[40]⟩ ++ names out) ⟨#[41, 61]⟩
        obtain ⟨J, hJ⟩ : ∃ J, joinF ⟨#[44]⟩ 0 ⟨#[]⟩ (ats.map atomT) = J := ⟨_, rfl⟩
        have HJJ := Lib.hid hJ
        have hJs : J.size ≤ 1000 := by
          rw [← hJ]
          have := joinF_size 20 (ats.map atomT) 0 ⟨#[]⟩ (fun p hp => by obtain ⟨x, hx, rfl⟩ := List.mem_map.1 hp; exact atomT_size (Hx.out x hx).1 (Hx.out x hx).2)
          rw [List.length_map, show (ByteArray.mk #[]).size = 0 from rfl] at this
          omega
        clear hJ
        go_wp2_with (first
          | (go_at_call 62; refine (namesOf_any (by omega) (r2.toExt (trans_ext hxw hy))).mono ?_; rintro e w2 ⟨rfl, hx2⟩)
          | (go_at_call 63; refine (join_n (ps := ats.map atomT) (by simp) (by omega) (hV.toExt (by refine x'z ?_; repeat (with_reducible (first | exact x'a _ _ | exact x'b _ | exact x'c (by assumption) | refine x'd ?_ (by assumption) | refine x'e ?_ _ | refine x'f ?_ _ | refine x'g ?_ | refine x'h ?_ ?_ _ | refine x'i ?_ _ | refine x'j ?_ | refine x'k ?_ _ | refine x'l ?_ _ _ | refine x'm ?_ | assumption | (refine x'n ?_; omega) | omega)))) (by decide) HJ.out).mono ?_; rintro e w3 ⟨rfl, hx3⟩; rw [HJJ.out]))
        go_ret
        exact ⟨by rw [HE.out, HJJ.out]; rfl, (by refine x'z ?_; repeat (with_reducible (first | exact x'a _ _ | exact x'b _ | exact x'c (by assumption) | refine x'd ?_ (by assumption) | refine x'e ?_ _ | refine x'f ?_ _ | refine x'g ?_ | refine x'h ?_ ?_ _ | refine x'i ?_ _ | refine x'j ?_ | refine x'k ?_ _ | refine x'l ?_ _ _ | refine x'm ?_ | assumption | (refine x'n ?_; omega) | omega)))⟩
theorem FormatQuery_any {A B : Option Addr} {c e1 : Nat} {d : Qd} {w : World} (hb : BQ d) (h : vQ w [.int .i64 d.1, .slice A d.2.1.length c, .slice B d.2.2.length e1] d) :
    Calls Try.prog 24 #[.agg #[.int .i64 d.1, .slice A d.2.1.length c, .slice B d.2.2.length e1]] w fun e w' => e = .returned (.string (fmtQ d)) ∧ ∃ y, w' = ext w y := FormatQuery_w hb.w h
theorem par_size (l : List Int) : (par l).size ≤ l.length + 2 := by
  have := names_size l
  unfold par
  rw [ba_size, ba_size, show (ByteArray.mk #[40]).size = 1 from rfl, show (ByteArray.mk #[41]).size = 1 from rfl]
  omega
set_option maxHeartbeats 4000000 in
theorem specFormatQuery_w {A B : Option Addr} {c e1 : Nat} {d : Qd} {w : World} (hb : WQ d) (h : vQ w [.int .i64 d.1, .slice A d.2.1.length c, .slice B d.2.2.length e1] d) :
    Calls Try.prog 64 #[.agg #[.int .i64 d.1, .slice A d.2.1.length c, .slice B d.2.2.length e1]] w fun e w' => e = .returned (.string (fmtQ d)) ∧ ∃ y, w' = ext w y := by
  have HB := Lib.hid hb
  have HV := Lib.hid h
  obtain ⟨r1, r2, _⟩ := vQ_get h
  have r1 := (vAts_get r1).2
  obtain ⟨z, ats, out⟩ := d
  dsimp only at r1 r2 ⊢
  clear h hb
  obtain ⟨t1, ht1⟩ : ∃ t, vqB (z, ats, out) = t := ⟨_, rfl⟩
  have N1 := Lib.hid ht1
  cases t1 with
  | false =>
    have HE := Lib.hid (show fmtQ (z, ats, out) = ⟨#[]⟩ by unfold fmtQ; rw [ht1]; rfl)
    clear ht1
    go_enter Try.func64, Try.ntmps64
    go_wp2_with (go_at_call 28; refine (specIsValidQuery_w (d := (z, ats, out)) HB.out (VD.toExt HV.out (by refine x'z ?_; repeat (with_reducible (first | exact x'a _ _ | exact x'b _ | exact x'c (by assumption) | refine x'd ?_ (by assumption) | refine x'e ?_ _ | refine x'f ?_ _ | refine x'g ?_ | refine x'h ?_ ?_ _ | refine x'i ?_ _ | refine x'j ?_ | refine x'k ?_ _ | refine x'l ?_ _ _ | refine x'm ?_ | assumption | (refine x'n ?_; omega) | omega))))).mono ?_; rintro e w1 ⟨rfl, hx1⟩; rw [N1.out])
    go_ret
    exact ⟨by rw [HE.out]; rfl, (by refine x'z ?_; repeat (with_reducible (first | exact x'a _ _ | exact x'b _ | exact x'c (by assumption) | refine x'd ?_ (by assumption) | refine x'e ?_ _ | refine x'f ?_ _ | refine x'g ?_ | refine x'h ?_ ?_ _ | refine x'i ?_ _ | refine x'j ?_ | refine x'k ?_ _ | refine x'l ?_ _ _ | refine x'm ?_ | assumption | (refine x'n ?_; omega) | omega)))⟩
  | true =>
    have HE := Lib.hid (fmtQ_par ht1)
    obtain ⟨g1, g2, g3⟩ := vqB_facts ht1
    dsimp only at g1 g2 g3
    have Hx := Lib.hid g3
    clear ht1 g3
    have z1 := par_size out
    have z5 : (ByteArray.mk #[61]).size = 1 := rfl
    have z2 := ba_size (par out) ⟨#[61]⟩
    go_enter Try.func64, Try.ntmps64
    go_wp2_with (first
      | (go_at_call 28; refine (specIsValidQuery_w (d := (z, ats, out)) HB.out (VD.toExt HV.out (by refine x'z ?_; repeat (with_reducible (first | exact x'a _ _ | exact x'b _ | exact x'c (by assumption) | refine x'd ?_ (by assumption) | refine x'e ?_ _ | refine x'f ?_ _ | refine x'g ?_ | refine x'h ?_ ?_ _ | refine x'i ?_ _ | refine x'j ?_ | refine x'k ?_ _ | refine x'l ?_ _ _ | refine x'm ?_ | assumption | (refine x'n ?_; omega) | omega))))).mono ?_; rintro e w1 ⟨rfl, hx1⟩; rw [N1.out]; have P1 := (BoxAt.new w #[.int .i64 z, .slice A ats.length c, .slice B out.length e1] 44).toExt hx1; obtain ⟨l1, a1, a1', a1'', f1⟩ := box3 P1)
      | (go_at_call 102; refine (l7Vars_any (by omega) (r2.toExt (by refine x'z ?_; repeat (with_reducible (first | exact x'a _ _ | exact x'b _ | exact x'c (by assumption) | refine x'd ?_ (by assumption) | refine x'e ?_ _ | refine x'f ?_ _ | refine x'g ?_ | refine x'h ?_ ?_ _ | refine x'i ?_ _ | refine x'j ?_ | refine x'k ?_ _ | refine x'l ?_ _ _ | refine x'm ?_ | assumption | (refine x'n ?_; omega) | omega))))).mono ?_; rintro e w2 ⟨rfl, hx2⟩))
    have hxw : ∃ y, w1 = ext w y := (by refine x'z ?_; repeat (with_reducible (first | exact x'a _ _ | exact x'b _ | exact x'c (by assumption) | refine x'd ?_ (by assumption) | refine x'e ?_ _ | refine x'f ?_ _ | refine x'g ?_ | refine x'h ?_ ?_ _ | refine x'i ?_ _ | refine x'j ?_ | refine x'k ?_ _ | refine x'l ?_ _ _ | refine x'm ?_ | assumption | (refine x'n ?_; omega) | omega)))
    go_loopw [3, 4] (fun v i wr => ∃ (k : Nat) (acc : ByteArray), i = .int .i64 k ∧ v = .string acc ∧ k ≤ ats.length ∧ acc.size ≤ 10 + 30 * k ∧ joinF ⟨#[44]⟩ k acc ((ats.drop k).map atomT) = joinF ⟨#[44]⟩ 0 (par out ++ ⟨#[61]⟩) (ats.map atomT) ∧ ∃ y, wr = ext w1 y) (fun _ i _ => ats.length - (intOf i).toNat)
    case atStart => exact ⟨0, _, rfl, rfl, by omega, by omega, by simp, hx2⟩
    case round =>
      obtain ⟨k, acc, rfl, rfl, hk, ha, hj, hy⟩ := hrel
      have Hj := Lib.hid hj
      clear hj
      obtain ⟨l2, a2, a2', a2'', f2⟩ := box3 (P1.toExt hy)
      by_cases hlt : k < ats.length
      · obtain ⟨b, o, A', c', rfl, hb, hc, hd, hv⟩ := (r1.toExt (trans_ext hxw hy)).atA hlt
        obtain ⟨x1, x2⟩ := Hx.out ats[k] (List.getElem_mem hlt)
        have HA := Lib.hid (atomT_par ats[k])
        have e := Hj.out
        rw [List.drop_eq_getElem_cons hlt, List.map_cons, joinF] at e
        obtain ⟨s, hs⟩ : ∃ s, ats[k].1 = s := ⟨_, rfl⟩
        obtain ⟨xs, hxs⟩ : ∃ xs, ats[k].2 = xs := ⟨_, rfl⟩
        rw [← atomT_par, hs, hxs] at e
        rw [hs] at hc x1
        rw [hxs] at hd hv x2
        have y1 := par_size xs
        have y5 : (ByteArray.mk #[44]).size = 1 := rfl
        clear hs hxs
        by_cases h0 : 0 < k
        · rw [if_pos h0] at e
          have y2 := ba_size acc ⟨#[44]⟩
          have y3 := ba_size (acc ++ ⟨#[44]⟩) s
          have y4 := ba_size (acc ++ ⟨#[44]⟩ ++ s) (par xs)
          have He := Lib.hid (show joinF ⟨#[44]⟩ (k + 1) (acc ++ ⟨#[44]⟩ ++ s ++ par xs) ((ats.drop (k + 1)).map atomT) = joinF ⟨#[44]⟩ 0 (par out ++ ⟨#[61]⟩) (ats.map atomT) by rw [← e, ba_assoc (acc ++ ⟨#[44]⟩)])
          clear e
          go_wp2
          refine wp_region_ext (by kernel_rfl) (by kernel_rfl) ?_
          repeat (go_big_quiet_step ((go_at_call 102; exact quietE (l7Vars_any (by omega) hv.ext))))
          refine wpQuiet_nil ?_
          rintro _ ⟨zz, rfl⟩
          go_wp2
          exact ⟨⟨k + 1, acc ++ ⟨#[44]⟩ ++ s ++ par xs, by go_num, rfl, by omega, by omega, He.out, (by refine x'z ?_; repeat (with_reducible (first | exact x'a _ _ | exact x'b _ | exact x'c (by assumption) | refine x'd ?_ (by assumption) | refine x'e ?_ _ | refine x'f ?_ _ | refine x'g ?_ | refine x'h ?_ ?_ _ | refine x'i ?_ _ | refine x'j ?_ | refine x'k ?_ _ | refine x'l ?_ _ _ | refine x'm ?_ | assumption | (refine x'n ?_; omega) | omega)))⟩, by simp [intOf]; omega⟩
        · rw [if_neg h0] at e
          have y3 := ba_size acc s
          have y4 := ba_size (acc ++ s) (par xs)
          have He := Lib.hid (show joinF ⟨#[44]⟩ (k + 1) (acc ++ s ++ par xs) ((ats.drop (k + 1)).map atomT) = joinF ⟨#[44]⟩ 0 (par out ++ ⟨#[61]⟩) (ats.map atomT) by rw [← e, ba_assoc acc])
          clear e
          go_wp2
          refine wp_region_ext (by kernel_rfl) (by kernel_rfl) ?_
          repeat (go_big_quiet_step ((go_at_call 102; exact quietE (l7Vars_any (by omega) hv.ext))))
          refine wpQuiet_nil ?_
          rintro _ ⟨zz, rfl⟩
          go_wp2
          exact ⟨⟨k + 1, acc ++ s ++ par xs, by go_num, rfl, by omega, by omega, He.out, (by refine x'z ?_; repeat (with_reducible (first | exact x'a _ _ | exact x'b _ | exact x'c (by assumption) | refine x'd ?_ (by assumption) | refine x'e ?_ _ | refine x'f ?_ _ | refine x'g ?_ | refine x'h ?_ ?_ _ | refine x'i ?_ _ | refine x'j ?_ | refine x'k ?_ _ | refine x'l ?_ _ _ | refine x'm ?_ | assumption | (refine x'n ?_; omega) | omega)))⟩, by simp [intOf]; omega⟩
      · have e := Hj.out
        rw [List.drop_eq_nil_of_le (by omega), List.map_nil, joinF] at e
        have He := Lib.hid (e.trans HE.out)
        clear e
        go_wp2
        go_ret
        exact ⟨by rw [← He.out]; rfl, (by refine x'z ?_; repeat (with_reducible (first | exact x'a _ _ | exact x'b _ | exact x'c (by assumption) | refine x'd ?_ (by assumption) | refine x'e ?_ _ | refine x'f ?_ _ | refine x'g ?_ | refine x'h ?_ ?_ _ | refine x'i ?_ _ | refine x'j ?_ | refine x'k ?_ _ | refine x'l ?_ _ _ | refine x'm ?_ | assumption | (refine x'n ?_; omega) | omega)))⟩
theorem specFormatQuery_any {A B : Option Addr} {c e1 : Nat} {d : Qd} {w : World} (hb : BQ d) (h : vQ w [.int .i64 d.1, .slice A d.2.1.length c, .slice B d.2.2.length e1] d) :
    Calls Try.prog 64 #[.agg #[.int .i64 d.1, .slice A d.2.1.length c, .slice B d.2.2.length e1]] w fun e w' => e = .returned (.string (fmtQ d)) ∧ ∃ y, w' = ext w y := specFormatQuery_w hb.w h
end Go.Proofs.Ytbjpkfgkmilkdaa
namespace Go.Proofs.Ytbjpkfgkmilkdaa
open Go.RowKit
theorem getD_set_ne {x : List Int} {i j : Nat} {y : Int} (h : i ≠ j) : (x.set i y).getD j 0 = x.getD j 0 := by
  simp only [List.getD_eq_getElem?_getD, List.getElem?_set, if_neg h]
end Go.Proofs.Ytbjpkfgkmilkdaa
namespace Go.Proofs.Ytbjpkfgkmilkdaa
open Go.RowKit
def FewQ (q : Qd) : Prop := q.1 ≤ 4 ∨ ∃ a ∈ q.2.1, ∃ b ∈ q.2.1, a.2 = [0, 1] ∧ b.2 = [2, 3]
end Go.Proofs.Ytbjpkfgkmilkdaa
namespace Go.Proofs.Ytbjpkfgkmilkdaa
open Go.RowKit
theorem bl_app (a b : ByteArray) : bl (a ++ b) = bl a ++ bl b := by simp [bl]
def jl (c : UInt8) : List (List UInt8) → List UInt8
  | [] => []
  | [p] => p
  | p :: q :: ps => p ++ c :: jl c (q :: ps)
theorem spl_jl {c : UInt8} : ∀ {ps : List (List UInt8)}, ps ≠ [] → (∀ p ∈ ps, ∀ x ∈ p, x ≠ c) → spl c (jl c ps) = ps
  | [], h, _ => absurd rfl h
  | [p], _, h => by rw [jl]; exact spl_none (h p (by simp))
  | p :: q :: ps, _, h => by
    rw [jl, spl_two (h p (by simp)), spl_jl (ps := q :: ps) (by simp) (fun r hr => h r (List.mem_cons_of_mem _ hr))]
theorem joinF_pos {c : UInt8} : ∀ (ps : List ByteArray) (k : Nat) (acc : ByteArray), 0 < k → bl (joinF ⟨#[c]⟩ k acc ps) = bl acc ++ (ps.map fun p => c :: bl p).flatten
  | [], k, acc, _ => by simp [joinF]
  | p :: ps, k, acc, h => by
    rw [joinF, if_pos h, joinF_pos ps (k + 1) _ (by omega), bl_app, bl_app]
    simp
    rfl
theorem jl_flat {c : UInt8} (p : List UInt8) : ∀ ps : List (List UInt8), jl c (p :: ps) = p ++ (ps.map fun p => c :: p).flatten
  | [] => by simp [jl]
  | q :: ps => by rw [jl, jl_flat q ps]; simp
theorem joinF_jl {c : UInt8} (ps : List ByteArray) : bl (joinF ⟨#[c]⟩ 0 ⟨#[]⟩ ps) = jl c (ps.map bl) := by
  cases ps with
  | nil => rfl
  | cons p ps =>
    rw [joinF, if_neg (by omega), joinF_pos ps 1 _ (by omega), bl_app, List.map_cons, jl_flat, List.map_map]
    rfl
theorem splB_joinF {c : UInt8} {ps : List ByteArray} (h : ps ≠ []) (hc : ∀ p ∈ ps, ∀ x ∈ bl p, x ≠ c) : splB c (joinF ⟨#[c]⟩ 0 ⟨#[]⟩ ps) = ps := by
  unfold splB
  rw [joinF_jl, spl_jl (by simpa using h)]
  · rw [List.map_map]
    conv => rhs; rw [← List.map_id ps]
    rfl
  · intro p hp
    obtain ⟨q, hq, rfl⟩ := List.mem_map.1 hp
    exact hc q hq
end Go.Proofs.Ytbjpkfgkmilkdaa
namespace Go.Proofs.Ytbjpkfgkmilkdaa
open Go.RowKit
def vix (b : UInt8) : Option Int := if b = 88 then some 0 else if b = 89 then some 1 else if b = 90 then some 2 else if b = 85 then some 3 else if b = 86 then some 4 else none
def pnG : List Int → List UInt8 → Option (List Int)
  | acc, [] => some acc
  | acc, b :: l => match vix b with
    | none => none
    | some v => pnG (acc ++ [v]) l
def pnB (s : ByteArray) : Bool := decide (2 ≤ s.size) && decide ((bl s).head? = some 40) && decide ((bl s).getLast? = some 41)
def pN (s : ByteArray) : Option (List Int) := if pnB s = true then pnG [] (((bl s).take (s.size - 1)).drop 1) else none
def ixc (c : UInt8) : List UInt8 → Nat
  | [] => 0
  | x :: xs => if x = c then 0 else ixc c xs + 1
def mxv (n : Int) (vs : List Int) : Int := vs.foldl (fun m v => max m (v + 1)) n
def pqG : Int → List At → List ByteArray → Option (Int × List At)
  | n, ats, [] => some (n, ats)
  | n, ats, w :: ws => match pN (w.extract (ixc 40 (bl w)) w.size) with
    | none => none
    | some vs => pqG (mxv n vs) (ats ++ [(w.extract 0 (ixc 40 (bl w)), vs)]) ws
def finQ (d : Qd) (s : ByteArray) : Option Qd := if fmtQ d = s ∧ s.size ≠ 0 then some d else none
def pQ (s : ByteArray) : Option Qd := match pN ((splB 61 s).getD 0 ⟨#[]⟩) with
  | none => none
  | some out => if (splB 61 s).length = 2 then (match pqG 0 [] (splB 44 ((splB 61 s).getD 1 ⟨#[]⟩)) with
    | none => none
    | some r => finQ (r.1, r.2, out) s) else none
def lst (l : List UInt8) : List Int := l.filterMap vix
def pqS : Int → List At → List ByteArray → Int × List At
  | n, ats, [] => (n, ats)
  | n, ats, w :: ws => pqS (mxv n (lst (bl w))) (ats ++ [((splB 40 w).getD 0 ⟨#[]⟩, lst (bl w))]) ws
def pQs (s : ByteArray) : Option Qd := if (splB 61 s).length = 2 then finQ ((pqS 0 [] (splB 44 ((splB 61 s).getD 1 ⟨#[]⟩))).1, (pqS 0 [] (splB 44 ((splB 61 s).getD 1 ⟨#[]⟩))).2, lst (bl ((splB 61 s).getD 0 ⟨#[]⟩))) s else none
theorem finQ_some {d q : Qd} {s : ByteArray} (h : finQ d s = some q) : d = q ∧ vqB q = true ∧ fmtQ q = s := by
  unfold finQ at h
  split at h
  · rename_i h1
    injection h with h
    subst h
    refine ⟨rfl, ?_, h1.1⟩
    cases hv : vqB d with
    | true => rfl
    | false =>
      refine absurd ?_ h1.2
      rw [← h1.1]
      unfold fmtQ
      rw [hv]
      rfl
  · cases h
theorem finQ_self {d : Qd} (h : vqB d = true) : finQ d (fmtQ d) = some d := by
  have hs : (fmtQ d).size ≠ 0 := by
    unfold fmtQ
    rw [if_pos h, ba_size, ba_size, ba_size, show (ByteArray.mk #[40]).size = 1 from rfl]
    omega
  unfold finQ
  rw [if_pos ⟨rfl, hs⟩]
theorem pQ_some {s : ByteArray} {d : Qd} (h : pQ s = some d) : vqB d = true ∧ fmtQ d = s := by
  unfold pQ at h
  split at h
  · cases h
  · split at h
    · split at h
      · cases h
      · exact (finQ_some h).2
    · cases h
theorem pQs_some {s : ByteArray} {d : Qd} (h : pQs s = some d) : vqB d = true ∧ fmtQ d = s := by
  unfold pQs at h
  split at h
  · exact (finQ_some h).2
  · cases h
theorem vix_vname {v : Int} (h0 : 0 ≤ v) (h4 : v ≤ 4) : ∃ b, bl (vname v) = [b] ∧ vix b = some v ∧ b ≠ 40 ∧ b ≠ 44 ∧ b ≠ 61 := by
  have h : v = 0 ∨ v = 1 ∨ v = 2 ∨ v = 3 ∨ v = 4 := by omega
  rcases h with rfl | rfl | rfl | rfl | rfl
  · exact ⟨88, by decide, by decide, by decide, by decide, by decide⟩
  · exact ⟨89, by decide, by decide, by decide, by decide, by decide⟩
  · exact ⟨90, by decide, by decide, by decide, by decide, by decide⟩
  · exact ⟨85, by decide, by decide, by decide, by decide, by decide⟩
  · exact ⟨86, by decide, by decide, by decide, by decide, by decide⟩
theorem names_cons (v : Int) (l : List Int) : names (v :: l) = vname v ++ names l := by
  show nmG (⟨#[]⟩ ++ vname v) l = _
  rw [nil_ba, nmG_eq]
def In5 (l : List Int) : Prop := ∀ v ∈ l, 0 ≤ v ∧ v ≤ 4
theorem names_ne : ∀ {l : List Int}, In5 l → ∀ x ∈ bl (names l), x ≠ 40 ∧ x ≠ 44 ∧ x ≠ 61
  | [], _, x, hx => by simp [names, nmG, bl] at hx
  | v :: l, h, x, hx => by
    rw [names_cons, bl_app] at hx
    obtain ⟨b, e, _, n1, n2, n3⟩ := vix_vname (h v (by simp)).1 (h v (by simp)).2
    rcases List.mem_append.1 hx with hx | hx
    · rw [e] at hx
      rw [List.mem_singleton.1 hx]
      exact ⟨n1, n2, n3⟩
    · exact names_ne (fun u hu => h u (by simp [hu])) x hx
theorem pnG_names : ∀ {l : List Int}, In5 l → ∀ acc, pnG acc (bl (names l)) = some (acc ++ l)
  | [], _, acc => by simp [names, nmG, bl, pnG]
  | v :: l, h, acc => by
    obtain ⟨b, e, e2, _⟩ := vix_vname (h v (by simp)).1 (h v (by simp)).2
    rw [names_cons, bl_app, e, List.singleton_append, pnG, e2]
    simp only
    rw [pnG_names (fun u hu => h u (by simp [hu]))]
    simp
theorem lst_names : ∀ {l : List Int}, In5 l → lst (bl (names l)) = l
  | [], _ => by simp [names, nmG, bl, lst]
  | v :: l, h => by
    obtain ⟨b, e, e2, _⟩ := vix_vname (h v (by simp)).1 (h v (by simp)).2
    have := lst_names (l := l) (fun u hu => h u (by simp [hu]))
    unfold lst at this ⊢
    rw [names_cons, bl_app, e, List.singleton_append, List.filterMap_cons, e2, this]
theorem bl_par (l : List Int) : bl (par l) = 40 :: (bl (names l) ++ [41]) := by
  unfold par
  rw [bl_app, bl_app]
  rfl
theorem pN_par {l : List Int} (h : In5 l) : pN (par l) = some l := by
  have e := bl_par l
  have hs : (par l).size = (bl (names l)).length + 2 := by rw [← bl_length, e]; simp
  have hb : pnB (par l) = true := by
    unfold pnB
    rw [e, hs]
    rw [decide_eq_true (by omega), decide_eq_true (by rfl), decide_eq_true (by
      rw [← List.cons_append, List.getLast?_concat])]
    rfl
  unfold pN
  rw [if_pos hb, e, hs]
  rw [show (bl (names l)).length + 2 - 1 = (bl (names l)).length + 1 by omega, List.take_succ_cons, List.drop_succ_cons, List.drop_zero, List.take_left, pnG_names h]
  rfl
theorem lst_par {l : List Int} (h : In5 l) : lst (bl (par l)) = l := by
  rw [bl_par]
  have := lst_names h
  unfold lst at this ⊢
  rw [List.filterMap_cons, show vix 40 = none from rfl, List.filterMap_append, this]
  simp [vix]
theorem ixc_app {c : UInt8} : ∀ {p : List UInt8} (_ : ∀ x ∈ p, x ≠ c) (r : List UInt8), ixc c (p ++ c :: r) = p.length
  | [], _, r => by simp [ixc]
  | x :: p, h, r => by rw [List.cons_append, ixc, if_neg (h x (by simp)), ixc_app (fun y hy => h y (by simp [hy])) r]; rfl
theorem bl_atomT (x : At) : bl (atomT x) = bl x.1 ++ bl (par x.2) := by rw [← atomT_par, bl_app]
structure OkAt (x : At) : Prop where
  nm : nameB x.1 = true
  vs : In5 x.2
theorem nameB_let {s : ByteArray} (h : nameB s = true) : ∀ x ∈ bl s, letB x = true := by
  unfold nameB at h
  rw [Bool.and_eq_true, List.all_eq_true] at h
  exact h.2
theorem let_ne {x c : UInt8} (h : letB x = true) (hc : letB c = false) : x ≠ c := by
  rintro rfl
  rw [h] at hc
  cases hc
theorem vix_let {x : UInt8} (h : letB x = true) : vix x = none := by
  have h1 : x ≠ 88 := let_ne h (by decide)
  have h2 : x ≠ 89 := let_ne h (by decide)
  have h3 : x ≠ 90 := let_ne h (by decide)
  have h4 : x ≠ 85 := let_ne h (by decide)
  have h5 : x ≠ 86 := let_ne h (by decide)
  unfold vix
  rw [if_neg h1, if_neg h2, if_neg h3, if_neg h4, if_neg h5]
theorem ix_atomT {x : At} (h : OkAt x) : ixc 40 (bl (atomT x)) = x.1.size := by
  rw [bl_atomT, bl_par, ixc_app fun y hy => let_ne (nameB_let h.nm y hy) (by decide), bl_length]
theorem ext_atomT0 {x : At} : (atomT x).extract 0 x.1.size = x.1 := by
  apply bl_inj
  rw [ext_bs, bl_bs, bl_atomT, ← bl_length x.1, List.take_left]
  rfl
theorem ext_atomT1 {x : At} : (atomT x).extract x.1.size (atomT x).size = par x.2 := by
  apply bl_inj
  rw [ext_bs, bl_bs, ← bl_length (atomT x), List.take_length, bl_atomT, ← bl_length x.1, List.drop_left]
theorem spl_atomT {x : At} (h : OkAt x) : (splB 40 (atomT x)).getD 0 ⟨#[]⟩ = x.1 := by
  unfold splB
  rw [bl_atomT, bl_par, spl_two fun y hy => let_ne (nameB_let h.nm y hy) (by decide)]
  rfl
theorem filter_let : ∀ {l : List UInt8}, (∀ x ∈ l, letB x = true) → l.filterMap vix = []
  | [], _ => rfl
  | x :: l, h => by rw [List.filterMap_cons, vix_let (h x (by simp)), filter_let fun y hy => h y (by simp [hy])]
theorem lst_atomT {x : At} (h : OkAt x) : lst (bl (atomT x)) = x.2 := by
  have h1 := lst_par h.vs
  unfold lst at h1 ⊢
  rw [bl_atomT, List.filterMap_append, h1, filter_let (nameB_let h.nm)]
  rfl
theorem pqG_text : ∀ {ats : List At}, (∀ x ∈ ats, OkAt x) → ∀ n acc, pqG n acc (ats.map atomT) = some (mxv n (seen ats), acc ++ ats)
  | [], _, n, acc => by simp [pqG, mxv, seen]
  | x :: ats, h, n, acc => by
    have hx := h x (by simp)
    rw [List.map_cons, pqG, ix_atomT hx, ext_atomT0, ext_atomT1, pN_par hx.vs]
    simp only
    rw [pqG_text (fun y hy => h y (by simp [hy]))]
    simp [mxv, seen, List.foldl_append]
theorem pqS_text : ∀ {ats : List At}, (∀ x ∈ ats, OkAt x) → ∀ n acc, pqS n acc (ats.map atomT) = (mxv n (seen ats), acc ++ ats)
  | [], _, n, acc => by simp [pqS, mxv, seen]
  | x :: ats, h, n, acc => by
    have hx := h x (by simp)
    rw [List.map_cons, pqS, spl_atomT hx, lst_atomT hx, pqS_text (fun y hy => h y (by simp [hy]))]
    simp [mxv, seen, List.foldl_append]
theorem mxv_le : ∀ {l : List Int} {n N : Int}, n ≤ N → (∀ v ∈ l, v < N) → mxv n l ≤ N
  | [], n, N, h, _ => h
  | v :: l, n, N, h, h2 => mxv_le (l := l) (n := max n (v + 1)) (by have := h2 v (by simp); omega) (fun u hu => h2 u (by simp [hu]))
theorem mxv_ge : ∀ {l : List Int} {n : Int}, n ≤ mxv n l ∧ ∀ v ∈ l, v + 1 ≤ mxv n l
  | [], n => ⟨Int.le_refl _, by simp⟩
  | v :: l, n => by
    obtain ⟨h1, h2⟩ := mxv_ge (l := l) (n := max n (v + 1))
    have e : mxv n (v :: l) = mxv (max n (v + 1)) l := rfl
    rw [e]
    refine ⟨by omega, fun u hu => ?_⟩
    rcases List.mem_cons.1 hu with rfl | hu
    · omega
    · exact h2 u hu
structure OkQ (d : Qd) : Prop where
  out : In5 d.2.2
  ats : ∀ x ∈ d.2.1, OkAt x
  ne : d.2.1 ≠ []
  cnt : mxv 0 (seen d.2.1) = d.1
theorem vqB_ok {d : Qd} (h : vqB d = true) : OkQ d := by
  unfold vqB at h
  simp only [Bool.and_eq_true, List.all_eq_true] at h
  obtain ⟨⟨⟨⟨h1, h2⟩, h3⟩, h4⟩, h5⟩ := h
  have b1 := inB_t h1
  have b2 := inB_t h2
  have h3 := (setB_sound h3).1
  have ha : ∀ x ∈ d.2.1, OkAt x ∧ ∀ v ∈ x.2, 0 ≤ v ∧ v < d.1 := by
    intro x hx
    have := h4 x hx
    unfold atomB at this
    simp only [Bool.and_eq_true, List.all_eq_true] at this
    obtain ⟨⟨k1, k2⟩, k3⟩ := this
    have k4 : ∀ v ∈ x.2, 0 ≤ v ∧ v < d.1 := fun v hv => by have := inB_t (k3 v hv); omega
    exact ⟨⟨k1, fun v hv => by have := k4 v hv; omega⟩, k4⟩
  refine ⟨fun v hv => by have := h3 v hv; omega, fun x hx => (ha x hx).1, ?_, ?_⟩
  · intro e
    rw [e] at b2
    simp at b2
  · have hlt : ∀ v ∈ seen d.2.1, v < d.1 := by
      intro v hv
      unfold seen at hv
      obtain ⟨x, hx, hv⟩ := List.mem_flatMap.1 hv
      exact ((ha x hx).2 v hv).2
    have hle := mxv_le (n := 0) (N := d.1) (by omega) hlt
    have hmem : d.1 - 1 ∈ seen d.2.1 := by
      unfold coverB mkU at h5
      rw [List.all_eq_true] at h5
      have := h5 (decide (((d.1 - 1).toNat : Int) ∈ seen d.2.1)) (List.mem_map.2 ⟨(d.1 - 1).toNat, List.mem_range.2 (by omega), rfl⟩)
      have := of_decide_eq_true this
      rwa [Int.toNat_of_nonneg (by omega)] at this
    have := (mxv_ge (n := 0)).2 _ hmem
    omega
theorem bl_fmtQ {d : Qd} (h : vqB d = true) : bl (fmtQ d) = bl (par d.2.2) ++ 61 :: jl 44 ((d.2.1.map atomT).map bl) := by
  rw [← fmtQ_par h, joinF_acc, bl_app, bl_app, joinF_jl]
  simp only [List.append_assoc]
  rfl
theorem par_ne {l : List Int} (h : In5 l) : ∀ x ∈ bl (par l), x ≠ 44 ∧ x ≠ 61 := by
  intro x hx
  rw [bl_par] at hx
  rcases List.mem_cons.1 hx with rfl | hx
  · decide
  · rcases List.mem_append.1 hx with hx | hx
    · exact (names_ne h x hx).2
    · rw [List.mem_singleton.1 hx]; decide
theorem atomT_ne {x : At} (h : OkAt x) : ∀ y ∈ bl (atomT x), y ≠ 44 ∧ y ≠ 61 := by
  intro y hy
  rw [bl_atomT] at hy
  rcases List.mem_append.1 hy with hy | hy
  · exact ⟨let_ne (nameB_let h.nm y hy) (by decide), let_ne (nameB_let h.nm y hy) (by decide)⟩
  · exact par_ne h.vs y hy
theorem jl_mem {c y : UInt8} : ∀ {ps : List (List UInt8)}, y ∈ jl c ps → y = c ∨ ∃ p ∈ ps, y ∈ p
  | [], h => by simp [jl] at h
  | [p], h => .inr ⟨p, by simp, by simpa [jl] using h⟩
  | p :: q :: ps, h => by
    rw [jl] at h
    rcases List.mem_append.1 h with h | h
    · exact .inr ⟨p, by simp, h⟩
    · rcases List.mem_cons.1 h with h | h
      · exact .inl h
      · rcases jl_mem (ps := q :: ps) h with h | ⟨r, hr, h⟩
        · exact .inl h
        · exact .inr ⟨r, List.mem_cons_of_mem _ hr, h⟩
theorem spl_fmtQ {d : Qd} (h : vqB d = true) : splB 61 (fmtQ d) = [par d.2.2, joinF ⟨#[44]⟩ 0 ⟨#[]⟩ (d.2.1.map atomT)] := by
  have ok := vqB_ok h
  have h2 : ∀ y ∈ jl 44 ((d.2.1.map atomT).map bl), y ≠ 61 := by
    intro y hy
    rcases jl_mem hy with e | ⟨p, hp, hy⟩
    · subst e; decide
    · simp only [List.map_map, List.mem_map] at hp
      obtain ⟨x, hx, rfl⟩ := hp
      exact (atomT_ne (ok.ats x hx) y hy).2
  unfold splB
  rw [bl_fmtQ h, spl_two (fun y hy => (par_ne ok.out y hy).2), spl_none h2, List.map_cons, List.map_cons, List.map_nil, ← joinF_jl]
  rfl
theorem spl_atoms {d : Qd} (h : vqB d = true) : splB 44 (joinF ⟨#[44]⟩ 0 ⟨#[]⟩ (d.2.1.map atomT)) = d.2.1.map atomT := by
  have ok := vqB_ok h
  refine splB_joinF (by simpa using ok.ne) fun p hp y hy => ?_
  obtain ⟨x, hx, rfl⟩ := List.mem_map.1 hp
  exact (atomT_ne (ok.ats x hx) y hy).1
theorem pQ_text {d : Qd} (h : vqB d = true) : pQ (fmtQ d) = some d := by
  have ok := vqB_ok h
  unfold pQ
  rw [spl_fmtQ h]
  simp only [List.getD_cons_zero, List.getD_cons_succ, List.length_cons, List.length_nil, pN_par ok.out, spl_atoms h, pqG_text ok.ats, List.nil_append, ok.cnt, if_true]
  exact finQ_self h
theorem pQs_text {d : Qd} (h : vqB d = true) : pQs (fmtQ d) = some d := by
  have ok := vqB_ok h
  unfold pQs
  rw [spl_fmtQ h]
  simp only [List.getD_cons_zero, List.getD_cons_succ, List.length_cons, List.length_nil, lst_par ok.out, spl_atoms h, pqS_text ok.ats, List.nil_append, ok.cnt, if_true]
  exact finQ_self h
theorem pQs_eq (s : ByteArray) : pQs s = pQ s := by
  cases h : pQ s with
  | some r =>
    obtain ⟨h1, rfl⟩ := pQ_some h
    exact pQs_text h1
  | none =>
    cases h2 : pQs s with
    | none => rfl
    | some r =>
      obtain ⟨h1, rfl⟩ := pQs_some h2
      rw [pQ_text h1] at h
      cases h
end Go.Proofs.Ytbjpkfgkmilkdaa
namespace Go.Proofs.Ytbjpkfgkmilkdaa
open Go.RowKit
def knownQ : List ByteArray := [⟨#[40, 88, 89, 90, 41, 61, 114, 40, 88, 89, 41, 44, 115, 40, 89, 90, 41, 44, 116, 40, 90, 88, 41]⟩, ⟨#[40, 88, 89, 90, 85, 41, 61, 114, 40, 88, 89, 41, 44, 115, 40, 89, 90, 41, 44, 116, 40, 90, 85, 41, 44, 117, 40, 85, 88, 41]⟩, ⟨#[40, 88, 89, 90, 41, 61, 114, 40, 88, 89, 41, 44, 115, 40, 89, 90, 41]⟩, ⟨#[40, 88, 41, 61, 114, 40, 88, 89, 41, 44, 115, 40, 89, 90, 41, 44, 116, 40, 90, 85, 41]⟩, ⟨#[40, 88, 89, 90, 41, 61, 118, 40, 88, 89, 90, 41, 44, 114, 40, 88, 89, 41]⟩, ⟨#[40, 88, 89, 41, 61, 114, 40, 88, 89, 41, 44, 114, 40, 89, 88, 41]⟩, ⟨#[40, 88, 89, 90, 85, 41, 61, 118, 40, 88, 89, 90, 41, 44, 115, 40, 90, 85, 41, 44, 116, 40, 85, 88, 41]⟩, ⟨#[40, 88, 41, 61, 114, 40, 88, 88, 41]⟩, ⟨#[40, 88, 89, 41, 61, 114, 40, 88, 90, 41, 44, 115, 40, 90, 89, 41, 44, 114, 40, 88, 85, 41, 44, 115, 40, 85, 89, 41]⟩, ⟨#[40, 41, 61, 114, 40, 88, 89, 41, 44, 115, 40, 89, 88, 41]⟩, ⟨#[40, 88, 89, 90, 85, 86, 41, 61, 114, 40, 88, 89, 41, 44, 115, 40, 89, 90, 41, 44, 116, 40, 90, 85, 41, 44, 117, 40, 85, 86, 41]⟩]
def fewB (q : Qd) : Bool := decide (q.1 ≤ 4) || (q.2.1.any (fun a => decide (a.2 = [0, 1])) && q.2.1.any fun b => decide (b.2 = [2, 3]))
theorem fewB_ok {q : Qd} (h : fewB q = true) : FewQ q := by
  unfold fewB at h
  rw [Bool.or_eq_true, Bool.and_eq_true, decide_eq_true_eq, List.any_eq_true, List.any_eq_true] at h
  rcases h with h | ⟨⟨a, ha, ea⟩, b, hb, eb⟩
  · exact .inl h
  · exact .inr ⟨a, ha, b, hb, of_decide_eq_true ea, of_decide_eq_true eb⟩
def knownB (s : ByteArray) : Bool := match pQ s with
  | none => false
  | some q => fewB q
theorem known_all : knownQ.all knownB = true := by decide +kernel
theorem known_ok {s : ByteArray} (h : s ∈ knownQ) : ∃ q, pQ s = some q ∧ vqB q = true ∧ FewQ q := by
  have h1 := (List.all_eq_true.1 known_all) s h
  unfold knownB at h1
  split at h1
  · cases h1
  · rename_i q hq
    exact ⟨q, hq, (pQ_some hq).1, fewB_ok h1⟩
def FewV (q : Qd) : Prop := vqB q = true → FewQ q
theorem vq_atom {n : Int} {ats : List At} {out : List Int} (h : vqB (n, ats, out) = true) : ∀ a ∈ ats, atomB n a = true := by
  unfold vqB at h
  simp only [Bool.and_eq_true] at h
  exact List.all_eq_true.1 h.1.2
theorem vq_cov {n : Int} {ats : List At} {out : List Int} (h : vqB (n, ats, out) = true) : ∀ v, 0 ≤ v → v < n → v ∈ seen ats := by
  unfold vqB at h
  simp only [Bool.and_eq_true] at h
  have k5 := h.2
  unfold coverB mkU at k5
  rw [List.all_eq_true] at k5
  intro v h0 h1
  have := k5 (decide ((v.toNat : Int) ∈ seen ats)) (List.mem_map.2 ⟨v.toNat, List.mem_range.2 (by omega), rfl⟩)
  have := of_decide_eq_true this
  rwa [Int.toNat_of_nonneg h0] at this
theorem vq_n {n : Int} {ats : List At} {out : List Int} (h : vqB (n, ats, out) = true) : 1 ≤ n ∧ n ≤ 5 := by
  unfold vqB at h
  simp only [Bool.and_eq_true] at h
  exact inB_t h.1.1.1.1
theorem atomB_in {n : Int} {a : At} (h : atomB n a = true) : (1 ≤ a.2.length ∧ a.2.length ≤ 5) ∧ ∀ v ∈ a.2, 0 ≤ v ∧ v ≤ n - 1 := by
  unfold atomB at h
  simp only [Bool.and_eq_true] at h
  have h2 := inB_t h.1.2
  exact ⟨by omega, fun v hv => inB_t (List.all_eq_true.1 h.2 v hv)⟩
theorem few_count {q : Qd} (h : vqB q = true) {n : Int} (hn : n = 0 ∨ n = 6 ∨ n = q.1 + 1) : FewV (n, q.2.1, q.2.2) := fun hv => by
  have h1 := vq_n hv
  rcases hn with rfl | rfl | e
  · omega
  · omega
  · exfalso
    have h2 := vq_n (n := q.1) (ats := q.2.1) (out := q.2.2) h
    have h3 := vq_cov hv q.1 (by omega) (by omega)
    unfold seen at h3
    obtain ⟨a, ha, hm⟩ := List.mem_flatMap.1 h3
    have := (atomB_in (vq_atom (n := q.1) (ats := q.2.1) (out := q.2.2) h a ha)).2 q.1 hm
    omega
theorem few_more {n : Int} {ats : List At} {out : List Int} (h : FewQ (n, ats, out)) (a : At) : FewQ (n, ats ++ [a], out) := by
  rcases h with h | ⟨x, hx, y, hy, ex, ey⟩
  · exact .inl h
  · exact .inr ⟨x, by simp [hx], y, by simp [hy], ex, ey⟩
theorem few_out {n : Int} {ats : List At} {out : List Int} (h : FewQ (n, ats, out)) (l : List Int) : FewQ (n, ats, l) := h
theorem mem_set_me {α : Type} {l : List α} {k : Nat} (h : k < l.length) (x : α) : x ∈ l.set k x := by
  have := List.getElem_mem (l := l.set k x) (n := k) (by simpa using h)
  rwa [List.getElem_set_self] at this
theorem few_nil {n : Int} {ats : List At} {out : List Int} {k : Nat} (hk : k < ats.length) (s : ByteArray) : FewV (n, ats.set k (s, []), out) := fun hv => by
  have := (atomB_in (vq_atom hv _ (mem_set_me hk _))).1
  simp at this
theorem few_val {n : Int} {ats : List At} {out : List Int} {k : Nat} (hk : k < ats.length) {s : ByteArray} {l : List Int} {v : Int} (hm : v ∈ l) (hv0 : v = -1 ∨ v = 5) : FewV (n, ats.set k (s, l), out) := fun hv => by
  have h1 := vq_n hv
  have := (atomB_in (vq_atom hv _ (mem_set_me hk _))).2 v hm
  omega
end Go.Proofs.Ytbjpkfgkmilkdaa
namespace Go.Proofs.Ytbjpkfgkmilkdaa
open Go.RowKit
theorem u8_eq {a b : UInt8} (h : a = b) : ((a.toNat : Int) == (b.toNat : Int)) = true := by rw [h]; simp
theorem u8_ne {a b : UInt8} (h : a ≠ b) : ((a.toNat : Int) == (b.toNat : Int)) = false := by
  rw [beq_eq_false_iff_ne]
  intro e
  exact h (UInt8.toNat_inj.1 (by omega))
theorem u8_bnet {a b : UInt8} (h : a = b) : ((a.toNat : Int) != (b.toNat : Int)) = false := by rw [bne, u8_eq h]; rfl
theorem u8_bnef {a b : UInt8} (h : a ≠ b) : ((a.toNat : Int) != (b.toNat : Int)) = true := by rw [bne, u8_ne h]; rfl
set_option maxHeartbeats 1000000 in
theorem split_any {s : ByteArray} {c : UInt8} {w : World} (hs : s.size ≤ 1000000000) :
    Calls Try.prog 60 #[.string s, .int .u8 c.toNat] w fun e w' => ∃ v F, e = .returned v ∧ (∃ y, w' = ext w y) ∧ SV 9 1 sS w' v (splB c s) F ∧ ∀ b ∈ F, w.heap.size ≤ b := by
  go_enter Try.func60, Try.ntmps60
  go_wp2
  go_loopw [5, 6, 7] (fun v f i wr => ∃ (k n : Nat) (ds : List ByteArray) (F : List Nat), i = .int .i64 k ∧ f = .int .i64 n ∧ n ≤ k ∧ (k ≤ s.size ∧ SplI c s n k ds ∨ k = s.size + 1 ∧ ds = splB c s) ∧ SV 9 1 sS wr v ds F ∧ (∀ b ∈ F, w.heap.size ≤ b) ∧ (∃ y, wr = ext w y) ∧ ds.length ≤ k) (fun _ _ i _ => s.size + 1 - (intOf i).toNat)
  case atStart => exact ⟨0, 0, [], [], rfl, rfl, by omega, .inl ⟨by omega, SplI.start c s⟩, SV.nil, by simp, refl_ext w, by simp⟩
  case round =>
    obtain ⟨k, n, ds, F, rfl, rfl, hn, hr, hS, hF, hy, hl⟩ := hrel
    have HF := Lib.hid hF
    clear hF
    by_cases hlt : k < s.size
    · have hr : SplI c s n k ds := by
        rcases hr with h | h
        · exact h.2
        · omega
      by_cases hc : s[k] = c
      · have hq := u8_eq hc
        have HR := Lib.hid (hr.cut hlt hc)
        clear hr hc
        go_wp2_with (at_builtin; refine wpList_app1 (E := sS) rfl _ _ _ rfl tS rfl rfl rfl (by simp) (fun _ => ⟨rfl, rfl⟩) rfl (by simp [Value.oneCell']) hS (by omega) (by omega) ?_; intro v' w' F' hS' hC' hF')
        exact ⟨⟨k + 1, k + 1, _, F', by go_num, by go_num, by omega, .inl ⟨by omega, HR.out⟩, hS', newer HF.out (size_of_ext hy) hF', hC'.isExt hy HF.out, by simp; omega⟩, by simp [intOf]; omega⟩
      · have hq := u8_ne hc
        have HR := Lib.hid (hr.step hlt hn hc)
        clear hr hc
        go_wp2
        exact ⟨⟨k + 1, n, _, F, by go_num, rfl, by omega, .inl ⟨by omega, HR.out⟩, hS, HF.out, hy, by omega⟩, by simp [intOf]; omega⟩
    · by_cases hk : k = s.size
      · subst hk
        have HR := Lib.hid (show ds ++ [s.extract n s.size] = splB c s by
          rcases hr with h | h
          · exact h.2.last hlt
          · omega)
        clear hr
        go_wp2_with (at_builtin; refine wpList_app1 (E := sS) rfl _ _ _ rfl tS rfl rfl rfl (by simp) (fun _ => ⟨rfl, rfl⟩) rfl (by simp [Value.oneCell']) hS (by omega) (by omega) ?_; intro v' w' F' hS' hC' hF')
        exact ⟨⟨s.size + 1, s.size + 1, _, F', by go_num, by go_num, by omega, .inr ⟨rfl, HR.out⟩, hS', newer HF.out (size_of_ext hy) hF', hC'.isExt hy HF.out, by simpa using hl⟩, by simp [intOf]⟩
      · have HR := Lib.hid (show ds = splB c s by
          rcases hr with h | h
          · omega
          · exact h.2)
        have hk2 : s.size < k := by omega
        clear hr
        go_wp2
        go_ret
        exact ⟨_, F, rfl, hy, by rw [← HR.out]; exact hS, HF.out⟩
set_option maxHeartbeats 1000000 in
theorem l5Cut_any {s : ByteArray} {c : UInt8} {w : World} (hs : s.size ≤ 1000000000) :
    Calls Try.prog 68 #[.string s, .int .u8 c.toNat] w fun e w' => ∃ v F, e = .returned v ∧ (∃ y, w' = ext w y) ∧ SV 9 1 sS w' v (splB c s) F ∧ ∀ b ∈ F, w.heap.size ≤ b := by
  go_enter Try.func68, Try.ntmps68
  go_wp2
  go_loopw [5, 6, 7] (fun v f i wr => ∃ (k n : Nat) (ds : List ByteArray) (F : List Nat), i = .int .i64 k ∧ f = .int .i64 n ∧ n ≤ k ∧ k ≤ s.size ∧ SplI c s n k ds ∧ SV 9 1 sS wr v ds F ∧ (∀ b ∈ F, w.heap.size ≤ b) ∧ (∃ y, wr = ext w y) ∧ ds.length ≤ k) (fun _ _ i _ => s.size + 1 - (intOf i).toNat)
  case atStart => exact ⟨0, 0, [], [w.heap.size], rfl, rfl, by omega, by omega, SplI.start c s, SV.empty w, by simp, alloc_ext _ _, by simp⟩
  case round =>
    obtain ⟨k, n, ds, F, rfl, rfl, hn, hk, hr, hS, hF, hy, hl⟩ := hrel
    have HF := Lib.hid hF
    clear hF
    by_cases hlt : k < s.size
    · by_cases hc : s[k] = c
      · have hq := u8_eq hc
        have HR := Lib.hid (hr.cut hlt hc)
        clear hr hc
        go_wp2_with (at_builtin; refine wpList_app1 (E := sS) rfl _ _ _ rfl tS rfl rfl rfl (by simp) (fun _ => ⟨rfl, rfl⟩) rfl (by simp [Value.oneCell']) hS (by omega) (by omega) ?_; intro v' w' F' hS' hC' hF')
        exact ⟨⟨k + 1, k + 1, _, F', by go_num, by go_num, by omega, by omega, HR.out, hS', newer HF.out (size_of_ext hy) hF', hC'.isExt hy HF.out, by simp; omega⟩, by simp [intOf]; omega⟩
      · have hq := u8_ne hc
        have HR := Lib.hid (hr.step hlt hn hc)
        clear hr hc
        go_wp2
        exact ⟨⟨k + 1, n, _, F, by go_num, rfl, by omega, by omega, HR.out, hS, HF.out, hy, by omega⟩, by simp [intOf]; omega⟩
    · have hk : k = s.size := by omega
      subst hk
      have HR := Lib.hid (hr.last hlt)
      clear hr
      go_wp2_with (at_builtin; refine wpList_app1 (E := sS) rfl _ _ _ rfl tS rfl rfl rfl (by simp) (fun _ => ⟨rfl, rfl⟩) rfl (by simp [Value.oneCell']) hS (by omega) (by omega) ?_; intro v' w' F' hS' hC' hF')
      go_ret
      exact ⟨_, F', rfl, hC'.isExt hy HF.out, by rw [← HR.out]; exact hS', newer HF.out (size_of_ext hy) hF'⟩
end Go.Proofs.Ytbjpkfgkmilkdaa
namespace Go.Proofs.Ytbjpkfgkmilkdaa
open Go.RowKit
theorem vix_bd {b : UInt8} {v : Int} (h : vix b = some v) : 0 ≤ v ∧ v ≤ 4 := by
  unfold vix at h
  repeat' split at h
  all_goals first | (injection h with h; omega) | cases h
theorem vix_inj {a b : UInt8} {v : Int} (h : vix a = some v) (h' : vix b = some v) : a = b := by
  unfold vix at h h'
  repeat' split at h
  all_goals first | cases h | skip
  all_goals
    repeat' split at h'
  all_goals first | cases h' | skip
  all_goals simp_all
theorem vname_eq {s : ByteArray} {i : Nat} {v : Int} (hi : i < s.size) (h0 : 0 ≤ v) (h4 : v ≤ 4) : vname v = s.extract i (i + 1) ↔ vix s[i] = some v := by
  obtain ⟨b, e1, e2, _⟩ := vix_vname h0 h4
  have e3 : bl (s.extract i (i + 1)) = [s[i]] := by
    rw [ext_bs, bl_bs, List.take_succ_eq_append_getElem (by rw [bl_length]; exact hi), List.drop_left' (by simp; rw [bl_length]; omega), bl_get s hi]
  constructor
  · intro e
    have := congrArg bl e
    rw [e1, e3] at this
    injection this with this
    rw [← this]; exact e2
  · intro e
    apply bl_inj
    rw [e1, e3, vix_inj e2 e]
def vv (b : UInt8) (k : Nat) : Int := match vix b with
  | some j => if j < k then j else -1
  | none => -1
theorem vv_zero (b : UInt8) : vv b 0 = -1 := by
  unfold vv
  cases h : vix b with
  | none => rfl
  | some j => have := vix_bd h; simp only; rw [if_neg (by simp; omega)]
theorem vv_hit {b : UInt8} {k : Nat} (h : vix b = some (k : Int)) : vv b (k + 1) = k := by
  unfold vv
  rw [h]
  simp only
  rw [if_pos (by omega)]
theorem vv_miss {b : UInt8} {k : Nat} (h : ¬ vix b = some (k : Int)) : vv b (k + 1) = vv b k := by
  unfold vv
  cases e : vix b with
  | none => rfl
  | some j =>
    have hj : j ≠ k := fun e2 => h (by rw [e, e2])
    simp only
    by_cases hlt : j < k
    · rw [if_pos hlt, if_pos (by omega)]
    · rw [if_neg hlt, if_neg (by omega)]
theorem vv_some {b : UInt8} {v : Int} (h : vix b = some v) : vv b 5 = v := by
  unfold vv
  have := vix_bd h
  rw [h]
  simp only
  rw [if_pos (by omega)]
theorem vv_none {b : UInt8} (h : vix b = none) : vv b 5 = -1 := by unfold vv; rw [h]
theorem pnG_in : ∀ {l : List UInt8} {acc r : List Int}, pnG acc l = some r → In5 acc → In5 r ∧ r.length = acc.length + l.length
  | [], acc, r, h, ha => by
    rw [pnG] at h
    injection h with h
    subst h
    exact ⟨ha, by simp⟩
  | b :: l, acc, r, h, ha => by
    rw [pnG] at h
    cases e : vix b with
    | none => rw [e] at h; cases h
    | some v =>
      rw [e] at h
      have := vix_bd e
      obtain ⟨h1, h2⟩ := pnG_in (acc := acc ++ [v]) h (fun u hu => by
        rcases List.mem_append.1 hu with hu | hu
        · exact ha u hu
        · rw [List.mem_singleton.1 hu]; exact this)
      refine ⟨h1, ?_⟩
      rw [h2]
      simp
      omega
theorem pN_in {s : ByteArray} {r : List Int} (h : pN s = some r) : In5 r ∧ r.length ≤ s.size := by
  unfold pN at h
  split at h
  · obtain ⟨h1, h2⟩ := pnG_in h (by simp [In5])
    refine ⟨h1, ?_⟩
    rw [h2]
    simp
    rw [bl_length]
    omega
  · cases h
theorem mid_step {s : ByteArray} {k : Nat} (h : k + 1 < s.size) : ((bl s).take (s.size - 1)).drop k = s[k] :: ((bl s).take (s.size - 1)).drop (k + 1) := by
  rw [List.drop_eq_getElem_cons (by simp; rw [bl_length]; omega)]
  congr 1
  rw [List.getElem_take]
  exact bl_get s (by omega)
theorem mid_end {s : ByteArray} {k : Nat} (h : ¬ k + 1 < s.size) : ((bl s).take (s.size - 1)).drop k = [] := List.drop_eq_nil_of_le (by simp; omega)
theorem bl_head {s : ByteArray} (h : 0 < s.size) : (bl s).head? = some s[0] := by
  rw [List.head?_eq_getElem?, List.getElem?_eq_getElem (by rw [bl_length]; exact h), bl_get s h]
theorem bl_last {s : ByteArray} (h : 0 < s.size) : (bl s).getLast? = some (s[s.size - 1]'(by omega)) := by
  rw [List.getLast?_eq_getElem?, List.getElem?_eq_getElem (by rw [bl_length]; omega)]
  congr 1
def PnRes (s : ByteArray) (w : World) (e : Ending) (w' : World) : Prop := ∃ v F, e = .returned (.tuple #[v, .bool (pN s).isSome]) ∧ (∃ y, w' = ext w y) ∧ SV 3 1 sI w' v ((pN s).getD []) F ∧ ∀ b ∈ F, w.heap.size ≤ b
set_option maxRecDepth 100000 in
set_option maxHeartbeats 4000000 in
theorem parseNames_any {s : ByteArray} {w : World} (hs : s.size ≤ 1000000000) : Calls Try.prog 61 #[.string s] w (PnRes s w) := by
  by_cases h2 : s.size < 2
  · have HE := Lib.hid (show pN s = none by unfold pN pnB; rw [decide_eq_false (by omega)]; rfl)
    go_enter Try.func61, Try.ntmps61
    go_wp2
    go_ret2
    show PnRes s w _ _
    exact ⟨_, [], by rw [HE.out]; rfl, (by refine x'z ?_; repeat (with_reducible (first | exact x'a _ _ | exact x'b _ | exact x'c (by assumption) | refine x'd ?_ (by assumption) | refine x'e ?_ _ | refine x'f ?_ _ | refine x'g ?_ | refine x'h ?_ ?_ _ | refine x'i ?_ _ | refine x'j ?_ | refine x'k ?_ _ | refine x'l ?_ _ _ | refine x'm ?_ | assumption | (refine x'n ?_; omega) | omega))), by rw [HE.out]; exact SV.nil, by simp⟩
  · have hp : 0 < s.size := by omega
    have i0 : (0 : Int) < (s.size : Int) := by omega
    have i1 : (0 : Int) ≤ (s.size : Int) - 1 := by omega
    have i2 : (s.size : Int) - 1 < (s.size : Int) := by omega
    have i3 : ((s.size : Int) - 1).toNat = s.size - 1 := by omega
    by_cases hc : s[0] = 40
    · have q1 := u8_bnet hc
      rw [show ((40 : UInt8).toNat : Int) = 40 from rfl] at q1
      by_cases hd : s[s.size - 1]'(by omega) = 41
      · have q2 := u8_bnet hd
        rw [show ((41 : UInt8).toNat : Int) = 41 from rfl] at q2
        have HE := Lib.hid (show pN s = pnG [] (((bl s).take (s.size - 1)).drop 1) by
          unfold pN pnB
          rw [bl_head hp, bl_last hp, hc, hd, decide_eq_true (by omega)]
          simp)
        clear hc hd
        go_enter Try.func61, Try.ntmps61
        go_wp2_with fail
        go_loopw [4, 5] (fun v i wr => ∃ (k : Nat) (acc : List Int) (F : List Nat), i = .int .i64 k ∧ 1 ≤ k ∧ k + 1 ≤ s.size ∧ acc.length ≤ k ∧ SV 3 1 sI wr v acc F ∧ (∀ b ∈ F, w.heap.size ≤ b) ∧ (∃ y, wr = ext w y) ∧ Hid (pnG acc (((bl s).take (s.size - 1)).drop k) = pN s)) (fun _ i _ => s.size - (intOf i).toNat)
        case atStart => exact ⟨1, [], [], rfl, by omega, by omega, by simp, SV.nil, by simp, refl_ext w, Lib.hid HE.out.symm⟩
        case round =>
          obtain ⟨k, acc, F, rfl, hk1, hk, hal, hS, hF, hy, Hj⟩ := hrel
          have HF := Lib.hid hF
          clear hF
          by_cases hlt : k + 1 < s.size
          · have hlt' : (k : Int) < (s.size : Int) - 1 := by omega
            have j0 : (0 : Int) ≤ (k : Int) := by omega
            have j1 : (k : Int) < (s.size : Int) := by omega
            have hks : k < s.size := by omega
            have ej := Hj.out
            rw [mid_step hlt, pnG] at ej
            obtain ⟨b, hb⟩ : ∃ b, s[k] = b := ⟨_, rfl⟩
            have HB := Lib.hid hb
            rw [hb] at ej
            have hvz := vv_zero b
            have HVZ := Lib.hid hvz
            have HS := Lib.hid hS
            have Hej := Lib.hid ej
            clear hb ej hvz hS
            go_wp2_with fail
            go_loopw [6, 7] (fun v i vs => ∃ j : Nat, i = .int .i64 j ∧ j ≤ 5 ∧ v = .int .i64 (vv b j) ∧ ∃ y, vs = ext wr y) (fun _ i _ => 5 - (intOf i).toNat)
            case atStart => exact ⟨0, rfl, by omega, by rw [HVZ.out], refl_ext wr⟩
            case round =>
              obtain ⟨j, rfl, hj5, rfl, hy2⟩ := hrel
              by_cases hjl : j < 5
              · have hve := vname_eq (v := (j : Int)) hks (by omega) (by omega)
                rw [HB.out] at hve
                by_cases hit : vix b = some (j : Int)
                · have q3 := str_beqt (hve.2 hit)
                  have HV := Lib.hid (vv_hit hit)
                  clear hve hit
                  go_wp2_with fail
                  refine wp_region_ext (by kernel_rfl) (by kernel_rfl) ?_
                  repeat (go_big_quiet_step ((go_at_call 101; exact quietS (VariableName_any _ _))))
                  refine wpQuiet_nil ?_
                  rintro _ ⟨z, rfl⟩
                  go_wp2
                  exact ⟨⟨j + 1, by go_num, by omega, by rw [HV.out], trans_ext hy2 ⟨z, rfl⟩⟩, by simp [intOf]; omega⟩
                · have q3 := str_beqf (fun e => hit (hve.1 e))
                  have HV := Lib.hid (vv_miss hit)
                  clear hve hit
                  go_wp2_with fail
                  refine wp_region_ext (by kernel_rfl) (by kernel_rfl) ?_
                  repeat (go_big_quiet_step ((go_at_call 101; exact quietS (VariableName_any _ _))))
                  refine wpQuiet_nil ?_
                  rintro _ ⟨z, rfl⟩
                  go_wp2
                  exact ⟨⟨j + 1, by go_num, by omega, by rw [HV.out], trans_ext hy2 ⟨z, rfl⟩⟩, by simp [intOf]; omega⟩
              · obtain rfl : j = 5 := by omega
                cases e : vix b with
                | none =>
                  have hv5 := vv_none e
                  rw [hv5]
                  have ej := Hej.out
                  rw [e] at ej
                  have HE2 := Lib.hid ej.symm
                  clear hv5 e ej
                  go_wp2
                  go_ret2
                  show PnRes s w _ _
                  exact ⟨_, [], by rw [HE2.out]; rfl, trans_ext hy hy2, by rw [HE2.out]; exact SV.nil, by simp⟩
                | some v =>
                  have hv5 := vv_some e
                  have hvb := vix_bd e
                  rw [hv5]
                  have ej := Hej.out
                  rw [e] at ej
                  have HE2 := Lib.hid ej
                  obtain ⟨v0, v4⟩ := hvb
                  clear hv5 e ej
                  go_wp2_with (at_builtin; refine wpList_app1 (E := sI) (d := v) rfl _ _ _ rfl tI rfl rfl rfl (by simp) (fun _ => ⟨rfl, rfl⟩) rfl (by simp [Value.oneCell']) (HS.out.toExt hy2) (by omega) (by omega) ?_; intro v' w' F' hS' hC' hF')
                  exact ⟨⟨k + 1, acc ++ [v], F', by go_num, by omega, by omega, by simp; omega, hS', newer HF.out (size_of_ext (trans_ext hy hy2)) hF', hC'.isExt (trans_ext hy hy2) HF.out, HE2⟩, by simp [intOf]; omega⟩
          · have hlt' : ¬ (k : Int) < (s.size : Int) - 1 := by omega
            have ej := Hj.out
            rw [mid_end hlt, pnG] at ej
            have HE2 := Lib.hid ej.symm
            clear ej
            go_wp2
            go_ret2
            show PnRes s w _ _
            exact ⟨_, F, by rw [HE2.out]; rfl, hy, by rw [HE2.out]; exact hS, HF.out⟩
      · have q2 := u8_bnef hd
        rw [show ((41 : UInt8).toNat : Int) = 41 from rfl] at q2
        have HE := Lib.hid (show pN s = none by
          unfold pN pnB
          rw [bl_last hp, decide_eq_false (p := some (s[s.size - 1]'(by omega)) = some 41) (by intro e; injection e with e; exact hd e)]
          simp)
        clear hc hd
        go_enter Try.func61, Try.ntmps61
        go_wp2
        go_ret2
        show PnRes s w _ _
        exact ⟨_, [], by rw [HE.out]; rfl, (by refine x'z ?_; repeat (with_reducible (first | exact x'a _ _ | exact x'b _ | exact x'c (by assumption) | refine x'd ?_ (by assumption) | refine x'e ?_ _ | refine x'f ?_ _ | refine x'g ?_ | refine x'h ?_ ?_ _ | refine x'i ?_ _ | refine x'j ?_ | refine x'k ?_ _ | refine x'l ?_ _ _ | refine x'm ?_ | assumption | (refine x'n ?_; omega) | omega))), by rw [HE.out]; exact SV.nil, by simp⟩
    · have q1 := u8_bnef hc
      rw [show ((40 : UInt8).toNat : Int) = 40 from rfl] at q1
      have HE := Lib.hid (show pN s = none by
        unfold pN pnB
        rw [bl_head hp, decide_eq_false (p := some s[0] = some 40) (by intro e; injection e with e; exact hc e)]
        simp)
      clear hc
      go_enter Try.func61, Try.ntmps61
      go_wp2
      go_ret2
      show PnRes s w _ _
      exact ⟨_, [], by rw [HE.out]; rfl, (by refine x'z ?_; repeat (with_reducible (first | exact x'a _ _ | exact x'b _ | exact x'c (by assumption) | refine x'd ?_ (by assumption) | refine x'e ?_ _ | refine x'f ?_ _ | refine x'g ?_ | refine x'h ?_ ?_ _ | refine x'i ?_ _ | refine x'j ?_ | refine x'k ?_ _ | refine x'l ?_ _ _ | refine x'm ?_ | assumption | (refine x'n ?_; omega) | omega))), by rw [HE.out]; exact SV.nil, by simp⟩
theorem lst_step {s : ByteArray} {k : Nat} (h : k < s.size) : lst (bl (s.extract 0 (k + 1))) = lst (bl (s.extract 0 k)) ++ (match vix s[k] with | some v => [v] | none => []) := by
  have e : bl (s.extract 0 (k + 1)) = bl (s.extract 0 k) ++ [s[k]] := by
    rw [ext_bs, ext_bs, bl_bs, bl_bs, List.drop_zero, List.drop_zero, List.take_succ_eq_append_getElem (by rw [bl_length]; exact h), bl_get s h]
  rw [e]
  unfold lst
  rw [List.filterMap_append]
  congr 1
  cases e2 : vix s[k] <;> simp [e2]
theorem lst_len (l : List UInt8) : (lst l).length ≤ l.length := List.length_filterMap_le _ _
theorem lst_in (l : List UInt8) : In5 (lst l) := by
  intro v hv
  unfold lst at hv
  obtain ⟨b, _, hb⟩ := List.mem_filterMap.1 hv
  exact vix_bd hb
def ww (b : UInt8) (k : Nat) : List Int := match vix b with
  | some j => if j < k then [j] else []
  | none => []
theorem ww_zero (b : UInt8) : ww b 0 = [] := by
  unfold ww
  cases h : vix b with
  | none => rfl
  | some j => have := vix_bd h; simp only; rw [if_neg (by simp; omega)]
theorem ww_hit {b : UInt8} {k : Nat} (h : vix b = some (k : Int)) : ww b (k + 1) = ww b k ++ [(k : Int)] := by
  unfold ww
  rw [h]
  simp only
  rw [if_pos (by omega), if_neg (by omega)]
  rfl
theorem ww_miss {b : UInt8} {k : Nat} (h : ¬ vix b = some (k : Int)) : ww b (k + 1) = ww b k := by
  unfold ww
  cases e : vix b with
  | none => rfl
  | some j =>
    have hj : j ≠ k := fun e2 => h (by rw [e, e2])
    simp only
    by_cases hlt : j < k
    · rw [if_pos hlt, if_pos (by omega)]
    · rw [if_neg hlt, if_neg (by omega)]
theorem ww_five (b : UInt8) : ww b 5 = (match vix b with | some v => [v] | none => []) := by
  unfold ww
  cases e : vix b with
  | none => rfl
  | some j => have := vix_bd e; simp only; rw [if_pos (by omega)]
theorem ww_len (b : UInt8) (k : Nat) : (ww b k).length ≤ 1 := by
  unfold ww
  cases e : vix b with
  | none => simp
  | some j => simp only; split <;> simp
set_option maxRecDepth 100000 in
set_option maxHeartbeats 4000000 in
theorem l7List_any {s : ByteArray} {w : World} (hs : s.size ≤ 1000000000) : Calls Try.prog 69 #[.string s] w fun e w' => ∃ v F, e = .returned v ∧ (∃ y, w' = ext w y) ∧ SV 3 1 sI w' v (lst (bl s)) F ∧ ∀ b ∈ F, w.heap.size ≤ b := by
  go_enter Try.func69, Try.ntmps69
  go_wp2_with fail
  go_loopw [3, 4] (fun v i wr => ∃ (k : Nat) (F : List Nat), i = .int .i64 k ∧ k ≤ s.size ∧ SV 3 1 sI wr v (lst (bl (s.extract 0 k))) F ∧ (∀ b ∈ F, w.heap.size ≤ b) ∧ ∃ y, wr = ext w y) (fun _ i _ => s.size - (intOf i).toNat)
  case atStart => exact ⟨0, [w.heap.size], rfl, by omega, by rw [ext_bs, bl_bs]; exact SV.empty w, by simp, alloc_ext _ _⟩
  case round =>
    obtain ⟨k, F, rfl, hk, hS, hF, hy⟩ := hrel
    by_cases hlt : k < s.size
    · have HL := Lib.hid (lst_step hlt)
      have hlen : (lst (bl (s.extract 0 k))).length ≤ k := Nat.le_trans (lst_len _) (by rw [bl_length, ByteArray.size_extract]; omega)
      obtain ⟨l0, hl0⟩ : ∃ l, lst (bl (s.extract 0 k)) = l := ⟨_, rfl⟩
      have HL0 := Lib.hid hl0
      rw [hl0] at hS hlen
      obtain ⟨b, hb⟩ : ∃ b, s[k] = b := ⟨_, rfl⟩
      have HB := Lib.hid hb
      have HZ := Lib.hid (ww_zero b)
      have HS := Lib.hid hS
      have HF := Lib.hid hF
      clear hl0 hb hS hF
      go_wp2_with fail
      go_loopw [3, 5] (fun v i vs => ∃ (j : Nat) (G : List Nat), i = .int .i64 j ∧ j ≤ 5 ∧ SV 3 1 sI vs v (l0 ++ ww b j) G ∧ (∀ b ∈ G, w.heap.size ≤ b) ∧ ∃ y, vs = ext w y) (fun _ i _ => 5 - (intOf i).toNat)
      case atStart => exact ⟨0, F, rfl, by omega, by rw [HZ.out, List.append_nil]; exact HS.out, HF.out, hy⟩
      case round =>
        obtain ⟨j, G, rfl, hj5, hG, hGF, hy2⟩ := hrel
        have HG := Lib.hid hG
        have HGF := Lib.hid hGF
        clear hGF
        by_cases hjl : j < 5
        · have hve := vname_eq (v := (j : Int)) hlt (by omega) (by omega)
          rw [HB.out] at hve
          by_cases hit : vix b = some (j : Int)
          · have q3 := str_beqt (hve.2 hit)
            have HV := Lib.hid (ww_hit hit)
            have hwl := ww_len b j
            have hll : (l0 ++ ww b j).length + 1 ≤ 2000000000 := by rw [List.length_append]; omega
            obtain ⟨A, c, rfl, _, _⟩ := hG.form
            clear hve hit hG hwl
            go_wp2_with fail
            refine wp_region_ext (by kernel_rfl) (by kernel_rfl) ?_
            repeat (go_big_quiet_step ((go_at_call 70; exact quietS (specVariableName_any _ _))))
            refine wpQuiet_nil ?_
            rintro _ ⟨z, rfl⟩
            go_wp2_with (at_builtin; refine wpList_app1 (E := sI) (d := (j : Int)) rfl _ _ _ rfl tI rfl rfl rfl (by simp) (fun _ => ⟨rfl, rfl⟩) rfl (by simp [Value.oneCell']) (HG.out.toExt ⟨z, rfl⟩) hll (by omega) ?_; intro v' w' F' hS' hC' hF')
            exact ⟨⟨j + 1, F', by go_num, by omega, by rw [HV.out, ← List.append_assoc]; exact hS', newer HGF.out (size_of_ext (trans_ext hy2 ⟨z, rfl⟩)) hF', hC'.isExt (trans_ext hy2 ⟨z, rfl⟩) HGF.out⟩, by simp [intOf]; omega⟩
          · have q3 := str_beqf (fun e => hit (hve.1 e))
            have HV := Lib.hid (ww_miss hit)
            clear hve hit hG
            go_wp2_with fail
            refine wp_region_ext (by kernel_rfl) (by kernel_rfl) ?_
            repeat (go_big_quiet_step ((go_at_call 70; exact quietS (specVariableName_any _ _))))
            refine wpQuiet_nil ?_
            rintro _ ⟨z, rfl⟩
            go_wp2
            exact ⟨⟨j + 1, G, by go_num, by omega, by rw [HV.out]; exact HG.out.toExt ⟨z, rfl⟩, HGF.out, trans_ext hy2 ⟨z, rfl⟩⟩, by simp [intOf]; omega⟩
        · obtain rfl : j = 5 := by omega
          have HV := Lib.hid (ww_five b)
          clear hG
          go_wp2
          exact ⟨⟨k + 1, G, by go_num, by omega, by rw [HL.out, HL0.out, HB.out, ← HV.out]; exact HG.out, HGF.out, hy2⟩, by simp [intOf]; omega⟩
    · obtain rfl : k = s.size := by omega
      have e : s.extract 0 s.size = s := by apply bl_inj; rw [ext_bs, bl_bs, List.drop_zero, List.take_of_length_le (by rw [bl_length]; omega)]
      rw [e] at hS
      clear e
      go_wp2
      go_ret
      exact ⟨_, F, rfl, hy, hS, hF⟩
end Go.Proofs.Ytbjpkfgkmilkdaa
namespace Go.Proofs.Ytbjpkfgkmilkdaa
open Go.RowKit
theorem isEmpty_yes {s : ByteArray} (h : s.size = 0) : s.toList.isEmpty = true := by
  rw [ByteArray.toList_eq, List.isEmpty_iff]
  apply List.eq_nil_of_length_eq_zero
  rw [Array.length_toList]
  exact h
theorem size_zero {s : ByteArray} (h : s.size = 0) : bl s = [] := List.eq_nil_of_length_eq_zero (by rw [bl_length]; exact h)
theorem RV.atS1 {w : World} {A : Option Addr} {xs : List ByteArray} {p : ByteArray} (h : RS w A xs) (h1 : 0 < xs.length) (hp : xs.getD 0 ⟨#[]⟩ = p) : ∃ b o, A = some ⟨b, o, none⟩ ∧ b < w.heap.size ∧ w.cell? ⟨b, o, none⟩ = some (.string p) := by
  obtain ⟨b, o, e, hb, hc⟩ := h.atS h1
  subst hp
  refine ⟨b, o, e, hb, ?_⟩
  rw [show xs.getD 0 ⟨#[]⟩ = xs[0] by simp [List.getD_eq_getElem?_getD, h1]]; exact hc
theorem split_m {s : ByteArray} (m : Int) (c : UInt8) {w : World} (hs : s.size ≤ 1000000000) (hm : (c.toNat : Int) = m) :
    Calls Try.prog 60 #[.string s, .int .u8 m] w fun e w' => ∃ v F, e = .returned v ∧ (∃ y, w' = ext w y) ∧ SV 9 1 sS w' v (splB c s) F ∧ ∀ b ∈ F, w.heap.size ≤ b := by
  subst hm
  exact split_any hs
theorem l5Cut_m {s : ByteArray} (m : Int) (c : UInt8) {w : World} (hs : s.size ≤ 1000000000) (hm : (c.toNat : Int) = m) :
    Calls Try.prog 68 #[.string s, .int .u8 m] w fun e w' => ∃ v F, e = .returned v ∧ (∃ y, w' = ext w y) ∧ SV 9 1 sS w' v (splB c s) F ∧ ∀ b ∈ F, w.heap.size ≤ b := by
  subst hm
  exact l5Cut_any hs
end Go.Proofs.Ytbjpkfgkmilkdaa
namespace Go.Proofs.Ytbjpkfgkmilkdaa
open Go.RowKit
section
variable {P : Program} {w : World}
theorem wp_appB {o : Oper} {a : Act} {K : Act → World → Prop} {Q : Exit → Act → World → Prop} (s x : Operand) (t : TypeId)
    (ho : o.op = .call { callee := .builtin .append, args := #[s, x], argTypes := #[t, t] })
    {α : Type} {E : SE α} [SMono E] {te size bytes : Nat} {z : Value} (hT : SlT P t te size bytes z) {v : Value} {ds : List α} {F G : List Nat} {cs : Array Value} {d : α} {c b0 : Nat} (hs : a.eval s = v) (hx : a.eval x = .slice (some ⟨b0, 0, none⟩) 1 c) (hB : BoxAt w b0 cs)
    (hE : E w cs.toList d G) (hc : cs.size = size) (h1 : ∀ u ∈ cs.toList, u.oneCell' = true)
    (hS : SV te size E w v ds F) (hN : (F ++ G).Nodup) (hlen : ds.length + 1 ≤ 2000000000) (hby : bytes ≤ 60000)
    (h : ∀ v' w' F', SV te size E w' v' (ds ++ [d]) F' → Chg F w w' → F'.Nodup → (∀ b ∈ F', b ∈ F ∨ b ∈ G ∨ w.heap.size ≤ b) → K (a.put o.dst v') w') : o.wp P a w K Q := by
  refine wp_appS _ s x t ho hT hs hS (List.nodup_append.1 hN).1 hx (cs := cs.toList) (es := [d]) (G := G) (fun j u hj => ?_) h1 rfl (elems_one (by simpa using hc) hE) hN hlen hby h
  have e : (⟨b0, 0, none⟩ : Addr).add j = ⟨b0, j, none⟩ := by
    unfold Addr.add
    split
    · rename_i h; subst h; rfl
    · simp
  rw [e, hB.2.1 j]
  simpa using hj
theorem step_appB {ops : Array Oper} {o : Oper} {a : Act} {K : Act → World → Prop} {Q : Exit → Act → World → Prop} {X : Prop} (hgd : o.guard = none) (s x : Operand) (t : TypeId)
    (ho : o.op = .call { callee := .builtin .append, args := #[s, x], argTypes := #[t, t] })
    {α : Type} {E : SE α} [SMono E] {te size bytes : Nat} {z : Value} (hT : SlT P t te size bytes z) {v : Value} {ds : List α} {F G : List Nat} {cs : Array Value} {d : α} {c b0 : Nat} (hs : a.eval s = v) (hx : a.eval x = .slice (some ⟨b0, 0, none⟩) 1 c) (hB : BoxAt w b0 cs)
    (hE : E w cs.toList d G) (hc : cs.size = size) (h1 : ∀ u ∈ cs.toList, u.oneCell' = true)
    (hS : SV te size E w v ds F) (hN : (F ++ G).Nodup) (hlen : ds.length + 1 ≤ 2000000000) (hby : bytes ≤ 60000)
    (h : ∀ v' w' F', SV te size E w' v' (ds ++ [d]) F' → Chg F w w' → F'.Nodup → (∀ b ∈ F', b ∈ F ∨ b ∈ G ∨ w.heap.size ≤ b) → K (a.put o.dst v') w') :
    if Region.wanted o (yielded ops a.tmps) = true then Oper.wp P o a w K Q else X := by
  have hwt : Region.wanted o (yielded ops a.tmps) = true := by simp [Region.wanted, hgd]
  rw [if_pos hwt]
  exact wp_appB s x t ho hT hs hx hB hE hc h1 hS hN hlen hby h
end
end Go.Proofs.Ytbjpkfgkmilkdaa
