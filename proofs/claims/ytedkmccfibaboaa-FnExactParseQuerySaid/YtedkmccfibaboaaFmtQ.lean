/- Queries as text; the program's way and the reference's. -/
import Derived.Test.YtedkmccfibaboaaValidQ
import Derived.Test.YtedkmccfibaboaaJoinT
import Derived.Deep.RegionLaw
namespace Go.Proofs.Ytedkmccfibaboaa
open Go.RowKit

theorem ba_assoc (a b c : ByteArray) : a ++ b ++ c = a ++ (b ++ c) := bl_inj (by simp [bl])
theorem ba_nil (a : ByteArray) : a ++ ⟨#[]⟩ = a := bl_inj (by simp [bl])
theorem nil_ba (a : ByteArray) : ⟨#[]⟩ ++ a = a := bl_inj (by simp [bl])
def nmG : ByteArray → List Int → ByteArray
  | acc, [] => acc
  | acc, v :: vs => nmG (acc ++ vname v) vs
def names (l : List Int) : ByteArray := nmG ⟨#[]⟩ l
theorem nmG_eq : ∀ (l : List Int) (acc : ByteArray), nmG acc l = acc ++ names l
  | [], acc => by rw [names, nmG, nmG, ba_nil]
  | v :: vs, acc => by
    have e : names (v :: vs) = vname v ++ names vs := by
      show nmG (⟨#[]⟩ ++ vname v) vs = _
      rw [nil_ba, nmG_eq vs]
    rw [nmG, nmG_eq vs, e, ba_assoc]
theorem nmG_step {acc : ByteArray} {l : List Int} {k : Nat} (h : k < l.length) : nmG acc (l.drop k) = nmG (acc ++ vname l[k]) (l.drop (k + 1)) := by
  rw [List.drop_eq_getElem_cons h, nmG]
theorem nmG_end {acc : ByteArray} {l : List Int} {k : Nat} (h : ¬ k < l.length) : nmG acc (l.drop k) = acc := by
  rw [List.drop_eq_nil_of_le (by omega), nmG]
theorem vname_size (v : Int) : (vname v).size ≤ 1 := by
  unfold vname
  split
  · rw [ByteArray.size_extract]; omega
  · decide
theorem names_size : ∀ (l : List Int), (names l).size ≤ l.length
  | [] => by decide
  | v :: vs => by
    have h1 := names_size vs
    have h2 := vname_size v
    rw [show names (v :: vs) = nmG (⟨#[]⟩ ++ vname v) vs from rfl, nil_ba, nmG_eq, ba_size, List.length_cons]
    omega
def par (l : List Int) : ByteArray := ⟨#[40]⟩ ++ names l ++ ⟨#[41]⟩
def atomT (x : At) : ByteArray := x.1 ++ ⟨#[40]⟩ ++ names x.2 ++ ⟨#[41]⟩
def fmtQ (d : Qd) : ByteArray := if vqB d = true then ⟨#[40]⟩ ++ names d.2.2 ++ ⟨#[41, 61]⟩ ++ joinF ⟨#[44]⟩ 0 ⟨#[]⟩ (d.2.1.map atomT) else ⟨#[]⟩
theorem atomT_par (x : At) : x.1 ++ par x.2 = atomT x := by unfold par atomT; simp only [ba_assoc]
theorem joinF_acc (sep : ByteArray) : ∀ (ps : List ByteArray) (k : Nat) (acc : ByteArray), joinF sep k acc ps = acc ++ joinF sep k ⟨#[]⟩ ps
  | [], k, acc => by rw [joinF, joinF, ba_nil]
  | p :: ps, k, acc => by
    rw [joinF, joinF, joinF_acc sep ps, joinF_acc sep ps (k + 1) ((if 0 < k then ⟨#[]⟩ ++ sep else ⟨#[]⟩) ++ p)]
    split
    · simp only [nil_ba, ba_assoc]
    · simp only [nil_ba, ba_assoc]
theorem fmtQ_par {d : Qd} (h : vqB d = true) : joinF ⟨#[44]⟩ 0 (par d.2.2 ++ ⟨#[61]⟩) (d.2.1.map atomT) = fmtQ d := by
  unfold fmtQ
  rw [if_pos h, joinF_acc]
  congr 1
  unfold par
  rw [ba_assoc, show (⟨#[41]⟩ ++ ⟨#[61]⟩ : ByteArray) = ⟨#[41, 61]⟩ from rfl]
theorem vqB_facts {d : Qd} (h : vqB d = true) : d.2.1.length ≤ 4 ∧ d.2.2.length ≤ 5 ∧ ∀ x ∈ d.2.1, x.1.size ≤ 4 ∧ x.2.length ≤ 5 := by
  unfold vqB at h
  simp only [Bool.and_eq_true, List.all_eq_true] at h
  obtain ⟨⟨⟨⟨h1, h2⟩, h3⟩, h4⟩, _⟩ := h
  have h1 := inB_t h1
  have h2 := inB_t h2
  have h3 := setB_len h3 (by omega)
  refine ⟨by omega, by omega, fun x hx => ?_⟩
  have h5 := h4 x hx
  unfold atomB nameB at h5
  simp only [Bool.and_eq_true] at h5
  obtain ⟨⟨⟨h6, _⟩, h7⟩, _⟩ := h5
  have h6 := inB_t h6
  have h7 := inB_t h7
  omega
theorem atomT_size {x : At} (h1 : x.1.size ≤ 4) (h2 : x.2.length ≤ 5) : (atomT x).size ≤ 20 := by
  have := names_size x.2
  unfold atomT
  rw [ba_size, ba_size, ba_size, show (ByteArray.mk #[40]).size = 1 from rfl, show (ByteArray.mk #[41]).size = 1 from rfl]
  omega
theorem joinF_size (m : Nat) : ∀ (ps : List ByteArray) (k : Nat) (acc : ByteArray), (∀ p ∈ ps, p.size ≤ m) → (joinF ⟨#[44]⟩ k acc ps).size ≤ acc.size + ps.length * (m + 1)
  | [], k, acc, _ => by simp [joinF]
  | p :: ps, k, acc, h => by
    have h1 := h p (by simp)
    have ih := joinF_size m ps (k + 1) ((if 0 < k then acc ++ ⟨#[44]⟩ else acc) ++ p) fun q hq => h q (by simp [hq])
    have h2 : ((if 0 < k then acc ++ ⟨#[44]⟩ else acc) ++ p).size ≤ acc.size + 1 + p.size := by
      rw [ba_size]
      split
      · rw [ba_size, show (ByteArray.mk #[44]).size = 1 from rfl]; omega
      · omega
    rw [joinF, List.length_cons, Nat.add_mul]
    omega
set_option maxHeartbeats 400000 in
theorem namesOf_any {A : Option Addr} {c : Nat} {xs : List Int} {w : World} (hx : xs.length ≤ 1000000) (h1 : RI w A xs) :
    Calls Try.prog 33 #[.slice A xs.length c] w fun e w' => e = .returned (.string (names xs)) ∧ ∃ y, w' = ext w y := by
  go_enter Try.func33, Try.ntmps33
  go_wp2
  go_loopw [3, 8] (fun s i wr => ∃ (k : Nat) (acc : ByteArray), s = .string acc ∧ i = .int .i64 k ∧ k ≤ xs.length ∧ acc.size ≤ k ∧ nmG acc (xs.drop k) = names xs ∧ ∃ y, wr = ext w y) (fun _ i _ => xs.length - (intOf i).toNat)
  case atStart => exact ⟨0, ⟨#[]⟩, rfl, rfl, by omega, by decide, by simp [names], refl_ext w⟩
  case round =>
    obtain ⟨k, acc, rfl, rfl, hk, ha, hj, hy⟩ := hrel
    have Hj := Lib.hid hj
    clear hj
    by_cases hlt : k < xs.length
    · obtain ⟨b, o, rfl, hb, hc⟩ := (h1.toExt hy).atI hlt
      have hs := vname_size xs[k]
      have hss := ba_size acc (vname xs[k])
      have He := Lib.hid ((nmG_step hlt).symm.trans Hj.out)
      go_wp2_with (go_at_call 51; refine (VariableName_any _ _).mono ?_; rintro e w' ⟨rfl, rfl⟩)
      exact ⟨⟨k + 1, acc ++ vname xs[k], rfl, by go_num, by omega, by omega, He.out, hy⟩, by simp [intOf]; omega⟩
    · have e := Hj.out
      rw [nmG_end hlt] at e
      have He := Lib.hid e
      clear e
      go_wp2
      go_ret
      exact ⟨by rw [← He.out]; rfl, hy⟩
set_option maxHeartbeats 400000 in
theorem l7Vars_any {A : Option Addr} {c : Nat} {xs : List Int} {w : World} (hx : xs.length ≤ 1000000) (h1 : RI w A xs) :
    Calls Try.prog 50 #[.slice A xs.length c] w fun e w' => e = .returned (.string (par xs)) ∧ ∃ y, w' = ext w y := by
  go_enter Try.func50, Try.ntmps50
  go_wp2
  go_loopw [3, 4] (fun s i wr => ∃ (k : Nat) (acc : ByteArray), s = .string acc ∧ i = .int .i64 k ∧ k ≤ xs.length ∧ acc.size ≤ k + 1 ∧ nmG acc (xs.drop k) = ⟨#[40]⟩ ++ names xs ∧ ∃ y, wr = ext w y) (fun _ i _ => xs.length - (intOf i).toNat)
  case atStart => exact ⟨0, ⟨#[40]⟩, rfl, rfl, by omega, by decide, by rw [List.drop_zero, nmG_eq], refl_ext w⟩
  case round =>
    obtain ⟨k, acc, rfl, rfl, hk, ha, hj, hy⟩ := hrel
    have Hj := Lib.hid hj
    clear hj
    by_cases hlt : k < xs.length
    · obtain ⟨b, o, rfl, hb, hc⟩ := (h1.toExt hy).atI hlt
      have hs := vname_size xs[k]
      have hss := ba_size acc (vname xs[k])
      have He := Lib.hid ((nmG_step hlt).symm.trans Hj.out)
      go_wp2_with (go_at_call 21; refine (specVariableName_any _ _).mono ?_; rintro e w' ⟨rfl, rfl⟩)
      exact ⟨⟨k + 1, acc ++ vname xs[k], rfl, by go_num, by omega, by omega, He.out, hy⟩, by simp [intOf]; omega⟩
    · have e := Hj.out
      rw [nmG_end hlt] at e
      have He := Lib.hid (show acc ++ ⟨#[41]⟩ = par xs by rw [e]; rfl)
      have h41 : (ByteArray.mk #[41]).size = 1 := rfl
      clear e
      go_wp2
      go_ret
      exact ⟨by rw [← He.out]; rfl, hy⟩
set_option maxRecDepth 100000 in
set_option maxHeartbeats 4000000 in
theorem FormatQuery_w {A B : Option Addr} {c e1 : Nat} {d : Qd} {w : World} (hb : WQ d) (h : vQ w [.int .i64 d.1, .slice A d.2.1.length c, .slice B d.2.2.length e1] d) :
    Calls Try.prog 12 #[.agg #[.int .i64 d.1, .slice A d.2.1.length c, .slice B d.2.2.length e1]] w fun e w' => e = .returned (.string (fmtQ d)) ∧ ∃ y, w' = ext w y := by
  have HB := Lib.hid hb
  have HV := Lib.hid h
  obtain ⟨r1, r2, _⟩ := vQ_get h
  have r1 := (vAts_get r1).2
  obtain ⟨z, ats, out⟩ := d
  dsimp only at r1 r2 ⊢
  clear h hb
  obtain ⟨t1, ht1⟩ : ∃ t, vqB (z, ats, out) = t := ⟨_, rfl⟩
  have N1 := Lib.hid ht1
  cases t1 with
  | false =>
    have HE := Lib.hid (show fmtQ (z, ats, out) = ⟨#[]⟩ by unfold fmtQ; rw [ht1]; rfl)
    clear ht1
    go_enter Try.func12, Try.ntmps12
    go_wp2_with (go_at_call 16; refine (IsValidQuery_w (d := (z, ats, out)) HB.out (VD.toExt HV.out (by refine Chg.isExt (F := []) ?_ (refl_ext _) (by simp); repeat (with_reducible (first | exact Chg.refl _ _ | exact Nat.le_refl _ | exact Chg.ofExt (by assumption) | refine Chg.trans0 ?_ (by assumption) | refine Chg.extS ?_ _ | refine Chg.alloc ?_ _ | refine Chg.drew ?_ | refine Chg.setCellE ?_ ?_ _ | refine le_addk ?_ _ | refine le_ext ?_ | refine le_alloc ?_ _ | refine le_setC ?_ _ _ | refine le_drew ?_ | assumption | (refine Nat.le_of_lt ?_; omega) | omega))))).mono ?_; rintro e w1 ⟨rfl, hx1⟩; rw [N1.out])
    go_ret
    exact ⟨by rw [HE.out]; rfl, (by refine Chg.isExt (F := []) ?_ (refl_ext _) (by simp); repeat (with_reducible (first | exact Chg.refl _ _ | exact Nat.le_refl _ | exact Chg.ofExt (by assumption) | refine Chg.trans0 ?_ (by assumption) | refine Chg.extS ?_ _ | refine Chg.alloc ?_ _ | refine Chg.drew ?_ | refine Chg.setCellE ?_ ?_ _ | refine le_addk ?_ _ | refine le_ext ?_ | refine le_alloc ?_ _ | refine le_setC ?_ _ _ | refine le_drew ?_ | assumption | (refine Nat.le_of_lt ?_; omega) | omega)))⟩
  | true =>
    have HE := Lib.hid (show fmtQ (z, ats, out) = ⟨#[40]⟩ ++ names out ++ ⟨#[41, 61]⟩ ++ joinF ⟨#[44]⟩ 0 ⟨#[]⟩ (ats.map atomT) by unfold fmtQ; rw [if_pos ht1])
    obtain ⟨g1, g2, g3⟩ := vqB_facts ht1
    dsimp only at g1 g2 g3
    have Hx := Lib.hid g3
    clear ht1 g3
    go_enter Try.func12, Try.ntmps12
    go_wp2_with (go_at_call 16; refine (IsValidQuery_w (d := (z, ats, out)) HB.out (VD.toExt HV.out (by refine Chg.isExt (F := []) ?_ (refl_ext _) (by simp); repeat (with_reducible (first | exact Chg.refl _ _ | exact Nat.le_refl _ | exact Chg.ofExt (by assumption) | refine Chg.trans0 ?_ (by assumption) | refine Chg.extS ?_ _ | refine Chg.alloc ?_ _ | refine Chg.drew ?_ | refine Chg.setCellE ?_ ?_ _ | refine le_addk ?_ _ | refine le_ext ?_ | refine le_alloc ?_ _ | refine le_setC ?_ _ _ | refine le_drew ?_ | assumption | (refine Nat.le_of_lt ?_; omega) | omega))))).mono ?_; rintro e w1 ⟨rfl, hx1⟩; rw [N1.out]; have P1 := (BoxAt.new w #[.int .i64 z, .slice A ats.length c, .slice B out.length e1] 25).toExt hx1; obtain ⟨l1, a1, a1', a1'', f1⟩ := box3 P1)
    have hxw : ∃ y, w1 = ext w y := (by refine Chg.isExt (F := []) ?_ (refl_ext _) (by simp); repeat (with_reducible (first | exact Chg.refl _ _ | exact Nat.le_refl _ | exact Chg.ofExt (by assumption) | refine Chg.trans0 ?_ (by assumption) | refine Chg.extS ?_ _ | refine Chg.alloc ?_ _ | refine Chg.drew ?_ | refine Chg.setCellE ?_ ?_ _ | refine le_addk ?_ _ | refine le_ext ?_ | refine le_alloc ?_ _ | refine le_setC ?_ _ _ | refine le_drew ?_ | assumption | (refine Nat.le_of_lt ?_; omega) | omega)))
    go_loopw [3, 12] (fun v i wr => ∃ (k : Nat) (F : List Nat), i = .int .i64 k ∧ k ≤ ats.length ∧ SV 9 1 sS wr v ((ats.take k).map atomT) F ∧ (∀ b ∈ F, w1.heap.size ≤ b) ∧ ∃ y, wr = ext w1 y) (fun _ i _ => ats.length - (intOf i).toNat)
    case atStart => exact ⟨0, [], rfl, by omega, SV.nil, by simp, refl_ext _⟩
    case round =>
      obtain ⟨k, F, rfl, hk, hS, hF, hy⟩ := hrel
      have HF := Lib.hid hF
      clear hF
      by_cases hlt : k < ats.length
      · obtain ⟨b, o, A', c', rfl, hb, hc, hd, hv⟩ := (r1.toExt (trans_ext hxw hy)).atA hlt
        obtain ⟨x1, x2⟩ := Hx.out ats[k] (List.getElem_mem hlt)
        obtain ⟨T, hT⟩ : ∃ T, atomT ats[k] = T := ⟨_, rfl⟩
        have HS := Lib.hid (show ((ats.take k).map atomT) ++ [T] = (ats.take (k + 1)).map atomT by rw [List.take_succ_eq_append_getElem hlt, List.map_append, ← hT]; rfl)
        have hlk : ((ats.take k).map atomT).length + 1 ≤ 2000000000 := by simp; omega
        obtain ⟨s, hs⟩ : ∃ s, ats[k].1 = s := ⟨_, rfl⟩
        obtain ⟨xs, hxs⟩ : ∃ xs, ats[k].2 = xs := ⟨_, rfl⟩
        have HA := Lib.hid (show s ++ ⟨#[40]⟩ ++ names xs ++ ⟨#[41]⟩ = T by rw [← hT]; unfold atomT; rw [hs, hxs])
        rw [hs] at hc x1
        rw [hxs] at hd hv x2
        have z1 := names_size xs
        have z2 := ba_size s ⟨#[40]⟩
        have z3 := ba_size (s ++ ⟨#[40]⟩) (names xs)
        have z4 := ba_size (s ++ ⟨#[40]⟩ ++ names xs) ⟨#[41]⟩
        have z5 : (ByteArray.mk #[40]).size = 1 := rfl
        have z6 : (ByteArray.mk #[41]).size = 1 := rfl
        have y2 : ¬ (9223372036854775807 < s.size + 1) := by omega
        have y6 : ¬ (9223372036854775807 < s.size + 1 + (names xs).size) := by omega
        have y7 : ¬ (9223372036854775807 < s.size + 1 + (names xs).size + 1) := by omega
        have k00 : (wr.alloc (.cells #[.string s, .slice A' xs.length c'] 43)).cell? ⟨wr.heap.size, 0, none⟩ = some (.string s) := by simp
        have k01 : (wr.alloc (.cells #[.string s, .slice A' xs.length c'] 43)).cell? ⟨wr.heap.size, 1, none⟩ = some (.slice A' xs.length c') := by simp
        have hnF : wr.heap.size ∉ F := fun h => by have := hS.lt _ h; omega
        clear hs hxs hT
        go_wp2_with fail
        go_region_held3 (fun w' => w'.cell? ⟨wr.heap.size, 0, none⟩ = some (.string s) ∧ w'.cell? ⟨wr.heap.size, 1, none⟩ = some (.slice A' xs.length c')) (first | go_keep | exact ⟨k0, k1⟩ | (refine ⟨?_, ?_⟩ <;> (rw [hC'.cell hnF kl]; assumption)))
          (first
            | (go_at_call 33; refine (namesOf_any (by omega) (hv.toExt (by refine Chg.isExt (F := []) ?_ (refl_ext _) (by simp); repeat (with_reducible (first | exact Chg.refl _ _ | exact Nat.le_refl _ | exact Chg.ofExt (by assumption) | refine Chg.trans0 ?_ (by assumption) | refine Chg.extS ?_ _ | refine Chg.alloc ?_ _ | refine Chg.drew ?_ | refine Chg.setCellE ?_ ?_ _ | refine le_addk ?_ _ | refine le_ext ?_ | refine le_alloc ?_ _ | refine le_setC ?_ _ _ | refine le_drew ?_ | assumption | (refine Nat.le_of_lt ?_; omega) | omega))))).mono ?_; rintro e w2 ⟨rfl, hx2⟩; have k0 : w2.cell? ⟨wr.heap.size, 0, none⟩ = some (.string s) := (by obtain ⟨y, e⟩ := hx2; rw [e, cell_ext (by simp)]; simp); have k1 : w2.cell? ⟨wr.heap.size, 1, none⟩ = some (.slice A' xs.length c') := (by obtain ⟨y, e⟩ := hx2; rw [e, cell_ext (by simp)]; simp); have kl : wr.heap.size < w2.heap.size := (by obtain ⟨y, e⟩ := hx2; rw [e]; exact lt_ext (by simp)))
            | (refine step_app1 (E := sS) (d := T) (by rfl) _ _ _ (by rfl) tS (by rfl) (by rfl) (by rfl) (by simp) (fun _ => ⟨by rw [HA.out], rfl⟩) (by rfl) (by simp [Value.oneCell']) (hS.toExt (by refine Chg.isExt (F := []) ?_ (refl_ext _) (by simp); repeat (with_reducible (first | exact Chg.refl _ _ | exact Nat.le_refl _ | exact Chg.ofExt (by assumption) | refine Chg.trans0 ?_ (by assumption) | refine Chg.extS ?_ _ | refine Chg.alloc ?_ _ | refine Chg.drew ?_ | refine Chg.setCellE ?_ ?_ _ | refine le_addk ?_ _ | refine le_ext ?_ | refine le_alloc ?_ _ | refine le_setC ?_ _ _ | refine le_drew ?_ | assumption | (refine Nat.le_of_lt ?_; omega) | omega)))) hlk (by omega) ?_; intro v' w' F' hS' hC' hF'))
        all_goals
          go_wp2
          exact ⟨⟨k + 1, F', by go_num, by omega, by rw [← HS.out]; exact hS', newer HF.out (size_of_ext (by refine Chg.isExt (F := []) ?_ (refl_ext _) (by simp); repeat (with_reducible (first | exact Chg.refl _ _ | exact Nat.le_refl _ | exact Chg.ofExt (by assumption) | refine Chg.trans0 ?_ (by assumption) | refine Chg.extS ?_ _ | refine Chg.alloc ?_ _ | refine Chg.drew ?_ | refine Chg.setCellE ?_ ?_ _ | refine le_addk ?_ _ | refine le_ext ?_ | refine le_alloc ?_ _ | refine le_setC ?_ _ _ | refine le_drew ?_ | assumption | (refine Nat.le_of_lt ?_; omega) | omega)))) hF', hC'.isExt (by refine Chg.isExt (F := []) ?_ (refl_ext _) (by simp); repeat (with_reducible (first | exact Chg.refl _ _ | exact Nat.le_refl _ | exact Chg.ofExt (by assumption) | refine Chg.trans0 ?_ (by assumption) | refine Chg.extS ?_ _ | refine Chg.alloc ?_ _ | refine Chg.drew ?_ | refine Chg.setCellE ?_ ?_ _ | refine le_addk ?_ _ | refine le_ext ?_ | refine le_alloc ?_ _ | refine le_setC ?_ _ _ | refine le_drew ?_ | assumption | (refine Nat.le_of_lt ?_; omega) | omega))) HF.out⟩, by simp [intOf]; omega⟩
      · rw [List.take_of_length_le (by omega)] at hS
        obtain ⟨A2, c2, rfl, _, _, hV⟩ := hS.view sS_v
        obtain ⟨l2, a2, a2', a2'', f2⟩ := box3 (P1.toExt hy)
        have HJ := Lib.hid (show ∀ j (h : j < (ats.map atomT).length), (ats.map atomT)[j].size ≤ 1000000000 by
          intro j h
          have h' : j < ats.length := by simpa using h
          obtain ⟨x1, x2⟩ := Hx.out ats[j] (List.getElem_mem h')
          have := atomT_size x1 x2
          simp
          omega)
        rw [List.length_map] at *
        have z1 := names_size out
        have z5 : (ByteArray.mk #[40]).size = 1 := rfl
        have z6 : (ByteArray.mk #[41, 61]).size = 2 := rfl
        have z2 := ba_size ⟨#[40]⟩ (names out)
        have z3 := ba_size (⟨#[40]⟩ ++ names out) ⟨#[41, 61]⟩
        obtain ⟨J, hJ⟩ : ∃ J, joinF ⟨#[44]⟩ 0 ⟨#[]⟩ (ats.map atomT) = J := ⟨_, rfl⟩
        have HJJ := Lib.hid hJ
        have hJs : J.size ≤ 1000 := by
          rw [← hJ]
          have := joinF_size 20 (ats.map atomT) 0 ⟨#[]⟩ (fun p hp => by obtain ⟨x, hx, rfl⟩ := List.mem_map.1 hp; exact atomT_size (Hx.out x hx).1 (Hx.out x hx).2)
          rw [List.length_map, show (ByteArray.mk #[]).size = 0 from rfl] at this
          omega
        clear hJ
        go_wp2_with (first
          | (go_at_call 33; refine (namesOf_any (by omega) (r2.toExt (trans_ext hxw hy))).mono ?_; rintro e w2 ⟨rfl, hx2⟩)
          | (go_at_call 34; refine (join_n (ps := ats.map atomT) (by simp) (by omega) (hV.toExt (by refine Chg.isExt (F := []) ?_ (refl_ext _) (by simp); repeat (with_reducible (first | exact Chg.refl _ _ | exact Nat.le_refl _ | exact Chg.ofExt (by assumption) | refine Chg.trans0 ?_ (by assumption) | refine Chg.extS ?_ _ | refine Chg.alloc ?_ _ | refine Chg.drew ?_ | refine Chg.setCellE ?_ ?_ _ | refine le_addk ?_ _ | refine le_ext ?_ | refine le_alloc ?_ _ | refine le_setC ?_ _ _ | refine le_drew ?_ | assumption | (refine Nat.le_of_lt ?_; omega) | omega)))) (by decide) HJ.out).mono ?_; rintro e w3 ⟨rfl, hx3⟩; rw [HJJ.out]))
        go_ret
        exact ⟨by rw [HE.out, HJJ.out]; rfl, (by refine Chg.isExt (F := []) ?_ (refl_ext _) (by simp); repeat (with_reducible (first | exact Chg.refl _ _ | exact Nat.le_refl _ | exact Chg.ofExt (by assumption) | refine Chg.trans0 ?_ (by assumption) | refine Chg.extS ?_ _ | refine Chg.alloc ?_ _ | refine Chg.drew ?_ | refine Chg.setCellE ?_ ?_ _ | refine le_addk ?_ _ | refine le_ext ?_ | refine le_alloc ?_ _ | refine le_setC ?_ _ _ | refine le_drew ?_ | assumption | (refine Nat.le_of_lt ?_; omega) | omega)))⟩
theorem FormatQuery_any {A B : Option Addr} {c e1 : Nat} {d : Qd} {w : World} (hb : BQ d) (h : vQ w [.int .i64 d.1, .slice A d.2.1.length c, .slice B d.2.2.length e1] d) :
    Calls Try.prog 12 #[.agg #[.int .i64 d.1, .slice A d.2.1.length c, .slice B d.2.2.length e1]] w fun e w' => e = .returned (.string (fmtQ d)) ∧ ∃ y, w' = ext w y := FormatQuery_w hb.w h
theorem par_size (l : List Int) : (par l).size ≤ l.length + 2 := by
  have := names_size l
  unfold par
  rw [ba_size, ba_size, show (ByteArray.mk #[40]).size = 1 from rfl, show (ByteArray.mk #[41]).size = 1 from rfl]
  omega
set_option maxHeartbeats 4000000 in
theorem specFormatQuery_w {A B : Option Addr} {c e1 : Nat} {d : Qd} {w : World} (hb : WQ d) (h : vQ w [.int .i64 d.1, .slice A d.2.1.length c, .slice B d.2.2.length e1] d) :
    Calls Try.prog 22 #[.agg #[.int .i64 d.1, .slice A d.2.1.length c, .slice B d.2.2.length e1]] w fun e w' => e = .returned (.string (fmtQ d)) ∧ ∃ y, w' = ext w y := by
  have HB := Lib.hid hb
  have HV := Lib.hid h
  obtain ⟨r1, r2, _⟩ := vQ_get h
  have r1 := (vAts_get r1).2
  obtain ⟨z, ats, out⟩ := d
  dsimp only at r1 r2 ⊢
  clear h hb
  obtain ⟨t1, ht1⟩ : ∃ t, vqB (z, ats, out) = t := ⟨_, rfl⟩
  have N1 := Lib.hid ht1
  cases t1 with
  | false =>
    have HE := Lib.hid (show fmtQ (z, ats, out) = ⟨#[]⟩ by unfold fmtQ; rw [ht1]; rfl)
    clear ht1
    go_enter Try.func22, Try.ntmps22
    go_wp2_with (go_at_call 15; refine (specIsValidQuery_w (d := (z, ats, out)) HB.out (VD.toExt HV.out (by refine Chg.isExt (F := []) ?_ (refl_ext _) (by simp); repeat (with_reducible (first | exact Chg.refl _ _ | exact Nat.le_refl _ | exact Chg.ofExt (by assumption) | refine Chg.trans0 ?_ (by assumption) | refine Chg.extS ?_ _ | refine Chg.alloc ?_ _ | refine Chg.drew ?_ | refine Chg.setCellE ?_ ?_ _ | refine le_addk ?_ _ | refine le_ext ?_ | refine le_alloc ?_ _ | refine le_setC ?_ _ _ | refine le_drew ?_ | assumption | (refine Nat.le_of_lt ?_; omega) | omega))))).mono ?_; rintro e w1 ⟨rfl, hx1⟩; rw [N1.out])
    go_ret
    exact ⟨by rw [HE.out]; rfl, (by refine Chg.isExt (F := []) ?_ (refl_ext _) (by simp); repeat (with_reducible (first | exact Chg.refl _ _ | exact Nat.le_refl _ | exact Chg.ofExt (by assumption) | refine Chg.trans0 ?_ (by assumption) | refine Chg.extS ?_ _ | refine Chg.alloc ?_ _ | refine Chg.drew ?_ | refine Chg.setCellE ?_ ?_ _ | refine le_addk ?_ _ | refine le_ext ?_ | refine le_alloc ?_ _ | refine le_setC ?_ _ _ | refine le_drew ?_ | assumption | (refine Nat.le_of_lt ?_; omega) | omega)))⟩
  | true =>
    have HE := Lib.hid (fmtQ_par ht1)
    obtain ⟨g1, g2, g3⟩ := vqB_facts ht1
    dsimp only at g1 g2 g3
    have Hx := Lib.hid g3
    clear ht1 g3
    have z1 := par_size out
    have z5 : (ByteArray.mk #[61]).size = 1 := rfl
    have z2 := ba_size (par out) ⟨#[61]⟩
    go_enter Try.func22, Try.ntmps22
    go_wp2_with (first
      | (go_at_call 15; refine (specIsValidQuery_w (d := (z, ats, out)) HB.out (VD.toExt HV.out (by refine Chg.isExt (F := []) ?_ (refl_ext _) (by simp); repeat (with_reducible (first | exact Chg.refl _ _ | exact Nat.le_refl _ | exact Chg.ofExt (by assumption) | refine Chg.trans0 ?_ (by assumption) | refine Chg.extS ?_ _ | refine Chg.alloc ?_ _ | refine Chg.drew ?_ | refine Chg.setCellE ?_ ?_ _ | refine le_addk ?_ _ | refine le_ext ?_ | refine le_alloc ?_ _ | refine le_setC ?_ _ _ | refine le_drew ?_ | assumption | (refine Nat.le_of_lt ?_; omega) | omega))))).mono ?_; rintro e w1 ⟨rfl, hx1⟩; rw [N1.out]; have P1 := (BoxAt.new w #[.int .i64 z, .slice A ats.length c, .slice B out.length e1] 25).toExt hx1; obtain ⟨l1, a1, a1', a1'', f1⟩ := box3 P1)
      | (go_at_call 50; refine (l7Vars_any (by omega) (r2.toExt (by refine Chg.isExt (F := []) ?_ (refl_ext _) (by simp); repeat (with_reducible (first | exact Chg.refl _ _ | exact Nat.le_refl _ | exact Chg.ofExt (by assumption) | refine Chg.trans0 ?_ (by assumption) | refine Chg.extS ?_ _ | refine Chg.alloc ?_ _ | refine Chg.drew ?_ | refine Chg.setCellE ?_ ?_ _ | refine le_addk ?_ _ | refine le_ext ?_ | refine le_alloc ?_ _ | refine le_setC ?_ _ _ | refine le_drew ?_ | assumption | (refine Nat.le_of_lt ?_; omega) | omega))))).mono ?_; rintro e w2 ⟨rfl, hx2⟩))
    have hxw : ∃ y, w1 = ext w y := (by refine Chg.isExt (F := []) ?_ (refl_ext _) (by simp); repeat (with_reducible (first | exact Chg.refl _ _ | exact Nat.le_refl _ | exact Chg.ofExt (by assumption) | refine Chg.trans0 ?_ (by assumption) | refine Chg.extS ?_ _ | refine Chg.alloc ?_ _ | refine Chg.drew ?_ | refine Chg.setCellE ?_ ?_ _ | refine le_addk ?_ _ | refine le_ext ?_ | refine le_alloc ?_ _ | refine le_setC ?_ _ _ | refine le_drew ?_ | assumption | (refine Nat.le_of_lt ?_; omega) | omega)))
    go_loopw [3, 4] (fun v i wr => ∃ (k : Nat) (acc : ByteArray), i = .int .i64 k ∧ v = .string acc ∧ k ≤ ats.length ∧ acc.size ≤ 10 + 30 * k ∧ joinF ⟨#[44]⟩ k acc ((ats.drop k).map atomT) = joinF ⟨#[44]⟩ 0 (par out ++ ⟨#[61]⟩) (ats.map atomT) ∧ ∃ y, wr = ext w1 y) (fun _ i _ => ats.length - (intOf i).toNat)
    case atStart => exact ⟨0, _, rfl, rfl, by omega, by omega, by simp, hx2⟩
    case round =>
      obtain ⟨k, acc, rfl, rfl, hk, ha, hj, hy⟩ := hrel
      have Hj := Lib.hid hj
      clear hj
      obtain ⟨l2, a2, a2', a2'', f2⟩ := box3 (P1.toExt hy)
      by_cases hlt : k < ats.length
      · obtain ⟨b, o, A', c', rfl, hb, hc, hd, hv⟩ := (r1.toExt (trans_ext hxw hy)).atA hlt
        obtain ⟨x1, x2⟩ := Hx.out ats[k] (List.getElem_mem hlt)
        have HA := Lib.hid (atomT_par ats[k])
        have e := Hj.out
        rw [List.drop_eq_getElem_cons hlt, List.map_cons, joinF] at e
        obtain ⟨s, hs⟩ : ∃ s, ats[k].1 = s := ⟨_, rfl⟩
        obtain ⟨xs, hxs⟩ : ∃ xs, ats[k].2 = xs := ⟨_, rfl⟩
        rw [← atomT_par, hs, hxs] at e
        rw [hs] at hc x1
        rw [hxs] at hd hv x2
        have y1 := par_size xs
        have y5 : (ByteArray.mk #[44]).size = 1 := rfl
        clear hs hxs
        by_cases h0 : 0 < k
        · rw [if_pos h0] at e
          have y2 := ba_size acc ⟨#[44]⟩
          have y3 := ba_size (acc ++ ⟨#[44]⟩) s
          have y4 := ba_size (acc ++ ⟨#[44]⟩ ++ s) (par xs)
          have He := Lib.hid (show joinF ⟨#[44]⟩ (k + 1) (acc ++ ⟨#[44]⟩ ++ s ++ par xs) ((ats.drop (k + 1)).map atomT) = joinF ⟨#[44]⟩ 0 (par out ++ ⟨#[61]⟩) (ats.map atomT) by rw [← e, ba_assoc (acc ++ ⟨#[44]⟩)])
          clear e
          go_wp2
          refine wp_region_ext (by kernel_rfl) (by kernel_rfl) ?_
          repeat (go_big_quiet_step ((go_at_call 50; exact quietE (l7Vars_any (by omega) hv.ext))))
          refine wpQuiet_nil ?_
          rintro _ ⟨zz, rfl⟩
          go_wp2
          exact ⟨⟨k + 1, acc ++ ⟨#[44]⟩ ++ s ++ par xs, by go_num, rfl, by omega, by omega, He.out, (by refine Chg.isExt (F := []) ?_ (refl_ext _) (by simp); repeat (with_reducible (first | exact Chg.refl _ _ | exact Nat.le_refl _ | exact Chg.ofExt (by assumption) | refine Chg.trans0 ?_ (by assumption) | refine Chg.extS ?_ _ | refine Chg.alloc ?_ _ | refine Chg.drew ?_ | refine Chg.setCellE ?_ ?_ _ | refine le_addk ?_ _ | refine le_ext ?_ | refine le_alloc ?_ _ | refine le_setC ?_ _ _ | refine le_drew ?_ | assumption | (refine Nat.le_of_lt ?_; omega) | omega)))⟩, by simp [intOf]; omega⟩
        · rw [if_neg h0] at e
          have y3 := ba_size acc s
          have y4 := ba_size (acc ++ s) (par xs)
          have He := Lib.hid (show joinF ⟨#[44]⟩ (k + 1) (acc ++ s ++ par xs) ((ats.drop (k + 1)).map atomT) = joinF ⟨#[44]⟩ 0 (par out ++ ⟨#[61]⟩) (ats.map atomT) by rw [← e, ba_assoc acc])
          clear e
          go_wp2
          refine wp_region_ext (by kernel_rfl) (by kernel_rfl) ?_
          repeat (go_big_quiet_step ((go_at_call 50; exact quietE (l7Vars_any (by omega) hv.ext))))
          refine wpQuiet_nil ?_
          rintro _ ⟨zz, rfl⟩
          go_wp2
          exact ⟨⟨k + 1, acc ++ s ++ par xs, by go_num, rfl, by omega, by omega, He.out, (by refine Chg.isExt (F := []) ?_ (refl_ext _) (by simp); repeat (with_reducible (first | exact Chg.refl _ _ | exact Nat.le_refl _ | exact Chg.ofExt (by assumption) | refine Chg.trans0 ?_ (by assumption) | refine Chg.extS ?_ _ | refine Chg.alloc ?_ _ | refine Chg.drew ?_ | refine Chg.setCellE ?_ ?_ _ | refine le_addk ?_ _ | refine le_ext ?_ | refine le_alloc ?_ _ | refine le_setC ?_ _ _ | refine le_drew ?_ | assumption | (refine Nat.le_of_lt ?_; omega) | omega)))⟩, by simp [intOf]; omega⟩
      · have e := Hj.out
        rw [List.drop_eq_nil_of_le (by omega), List.map_nil, joinF] at e
        have He := Lib.hid (e.trans HE.out)
        clear e
        go_wp2
        go_ret
        exact ⟨by rw [← He.out]; rfl, (by refine Chg.isExt (F := []) ?_ (refl_ext _) (by simp); repeat (with_reducible (first | exact Chg.refl _ _ | exact Nat.le_refl _ | exact Chg.ofExt (by assumption) | refine Chg.trans0 ?_ (by assumption) | refine Chg.extS ?_ _ | refine Chg.alloc ?_ _ | refine Chg.drew ?_ | refine Chg.setCellE ?_ ?_ _ | refine le_addk ?_ _ | refine le_ext ?_ | refine le_alloc ?_ _ | refine le_setC ?_ _ _ | refine le_drew ?_ | assumption | (refine Nat.le_of_lt ?_; omega) | omega)))⟩
theorem specFormatQuery_any {A B : Option Addr} {c e1 : Nat} {d : Qd} {w : World} (hb : BQ d) (h : vQ w [.int .i64 d.1, .slice A d.2.1.length c, .slice B d.2.2.length e1] d) :
    Calls Try.prog 22 #[.agg #[.int .i64 d.1, .slice A d.2.1.length c, .slice B d.2.2.length e1]] w fun e w' => e = .returned (.string (fmtQ d)) ∧ ∃ y, w' = ext w y := specFormatQuery_w hb.w h
end Go.Proofs.Ytedkmccfibaboaa
