/- Lists of rational numbers as text; of the program and of the reference alike. -/
import Derived.Test.YthhdmdmjadpgjaaRatText
import Derived.Test.YthhdmdmjadpgjaaJoinT
import Derived.Test.YthhdmdmjadpgjaaRats
import Derived.Test.YthhdmdmjadpgjaaSplit
namespace Go.Proofs.Ythhdmdmjadpgjaa
open Go.RowKit


def ratsF : Nat → ByteArray → List (Int × Int) → ByteArray
  | _, acc, [] => acc
  | k, acc, r :: rs => if isVR r = true then ratsF (k + 1) ((if 0 < k then acc ++ ⟨#[32]⟩ else acc) ++ ratText r) rs else ⟨#[]⟩
theorem ratsF_step {acc : ByteArray} {rs : List (Int × Int)} {k : Nat} (h : k < rs.length) : ratsF k acc (rs.drop k) = if isVR rs[k] = true then ratsF (k + 1) ((if 0 < k then acc ++ ⟨#[32]⟩ else acc) ++ ratText rs[k]) (rs.drop (k + 1)) else ⟨#[]⟩ := by
  rw [List.drop_eq_getElem_cons h, ratsF]
theorem ratsF_join : ∀ (rs : List (Int × Int)) (k : Nat) (acc : ByteArray), (∀ r ∈ rs, isVR r = true) → ratsF k acc rs = joinF ⟨#[32]⟩ k acc (rs.map ratText)
  | [], _, _, _ => rfl
  | r :: rs, k, acc, h => by
    rw [ratsF, if_pos (h r (by simp)), List.map_cons, joinF, ratsF_join rs _ _ fun x hx => h x (by simp [hx])]
theorem ratsF_bad : ∀ (rs : List (Int × Int)) (k : Nat) (acc : ByteArray), (∃ r ∈ rs, isVR r = false) → ratsF k acc rs = ⟨#[]⟩
  | [], _, _, h => by obtain ⟨r, hr, _⟩ := h; simp at hr
  | r :: rs, k, acc, h => by
    rw [ratsF]
    by_cases h1 : isVR r = true
    · rw [if_pos h1]
      obtain ⟨x, hx, hv⟩ := h
      rcases List.mem_cons.1 hx with e | e
      · subst e; rw [h1] at hv; cases hv
      · exact ratsF_bad rs _ _ ⟨x, e, hv⟩
    · rw [if_neg h1]
set_option maxHeartbeats 1000000 in
theorem specFormatRationals_any {A : Option Addr} {c : Nat} {xs : List (Int × Int)} {w : World} (hx : xs.length ≤ 1000000000) (h1 : RR w A xs) :
    Calls Try.prog 16 #[.slice A xs.length c] w fun e w' => e = .returned (.string (ratsF 0 ⟨#[]⟩ xs)) ∧ ∃ y, w' = ext w y := by
  go_enter Try.func16, Try.ntmps16
  go_wp2
  go_loopw [3, 4] (fun o i wr => ∃ (k : Nat) (acc : ByteArray), o = .string acc ∧ i = .int .i64 k ∧ k ≤ xs.length ∧ acc.size ≤ 100 * k ∧ ratsF k acc (xs.drop k) = ratsF 0 ⟨#[]⟩ xs ∧ ∃ y, wr = ext w y) (fun _ i _ => xs.length - (intOf i).toNat)
  case atStart => exact ⟨0, ⟨#[]⟩, rfl, rfl, by omega, by decide, by simp, refl_ext w⟩
  case round =>
    obtain ⟨k, acc, rfl, rfl, hk, ha, hj, hy⟩ := hrel
    have Hj := Lib.hid hj
    clear hj
    have h1' := h1.toExt hy
    by_cases hlt : k < xs.length
    · have e := Hj.out
      rw [ratsF_step hlt] at e
      have He := Lib.hid e
      clear e
      obtain ⟨b, o, rfl, hb, hc, hd⟩ := h1'.atR hlt
      by_cases hv : isVR xs[k] = true
      · have e := He.out
        rw [if_pos hv] at e
        have He := Lib.hid e
        clear e
        obtain ⟨z1, z2⟩ := ratText_size hv
        obtain ⟨t, ht⟩ : ∃ t, ratText (xs[k].1, xs[k].2) = t := ⟨_, rfl⟩
        have Ht := Lib.hid ht
        have e := He.out
        rw [show ratText xs[k] = t from ht] at e
        have He := Lib.hid e
        rw [show ratText xs[k] = t from ht] at z1 z2
        clear e ht
        have hne := isEmpty_no z1
        have hsa := ba_size acc ⟨#[32]⟩
        have hs1 : (ByteArray.mk #[32]).size = 1 := rfl
        have hsb := ba_size (acc ++ ⟨#[32]⟩) t
        have hsc := ba_size acc t
        by_cases h0 : 0 < k
        · have e := He.out
          rw [if_pos h0] at e
          have He := Lib.hid e
          clear e
          go_wp2_with (go_at_call 25; refine specFormatRational_any.mono ?_; rintro e w2 ⟨rfl, hx2⟩; rw [Ht.out])
          exact ⟨⟨k + 1, acc ++ ⟨#[32]⟩ ++ t, rfl, by go_num, by omega, by omega, He.out, (by refine Chg.isExt (F := []) ?_ (refl_ext _) (by simp); repeat (with_reducible (first | exact Chg.refl _ _ | exact Nat.le_refl _ | exact Chg.ofExt (by assumption) | refine Chg.trans0 ?_ (by assumption) | refine Chg.extS ?_ _ | refine Chg.alloc ?_ _ | refine Chg.drew ?_ | refine Chg.setCellE ?_ ?_ _ | refine le_addk ?_ _ | refine le_ext ?_ | refine le_alloc ?_ _ | refine le_setC ?_ _ _ | refine le_drew ?_ | assumption | (refine Nat.le_of_lt ?_; omega) | omega)))⟩, by simp [intOf]; omega⟩
        · have e := He.out
          rw [if_neg h0] at e
          have He := Lib.hid e
          clear e
          go_wp2_with (go_at_call 25; refine specFormatRational_any.mono ?_; rintro e w2 ⟨rfl, hx2⟩; rw [Ht.out])
          exact ⟨⟨k + 1, acc ++ t, rfl, by go_num, by omega, by omega, He.out, (by refine Chg.isExt (F := []) ?_ (refl_ext _) (by simp); repeat (with_reducible (first | exact Chg.refl _ _ | exact Nat.le_refl _ | exact Chg.ofExt (by assumption) | refine Chg.trans0 ?_ (by assumption) | refine Chg.extS ?_ _ | refine Chg.alloc ?_ _ | refine Chg.drew ?_ | refine Chg.setCellE ?_ ?_ _ | refine le_addk ?_ _ | refine le_ext ?_ | refine le_alloc ?_ _ | refine le_setC ?_ _ _ | refine le_drew ?_ | assumption | (refine Nat.le_of_lt ?_; omega) | omega)))⟩, by simp [intOf]; omega⟩
      · have e := He.out
        rw [if_neg hv] at e
        have He := Lib.hid e
        clear e
        have hv : isVR xs[k] = false := by simpa using hv
        have ht : ratText (xs[k].1, xs[k].2) = ⟨#[]⟩ := by show ratText xs[k] = ⟨#[]⟩; unfold ratText; rw [if_neg (by simp [hv])]
        have Ht := Lib.hid ht
        clear ht
        go_wp2_with (go_at_call 25; refine specFormatRational_any.mono ?_; rintro e w2 ⟨rfl, hx2⟩; rw [Ht.out])
        go_ret
        exact ⟨by rw [← He.out]; rfl, (by refine Chg.isExt (F := []) ?_ (refl_ext _) (by simp); repeat (with_reducible (first | exact Chg.refl _ _ | exact Nat.le_refl _ | exact Chg.ofExt (by assumption) | refine Chg.trans0 ?_ (by assumption) | refine Chg.extS ?_ _ | refine Chg.alloc ?_ _ | refine Chg.drew ?_ | refine Chg.setCellE ?_ ?_ _ | refine le_addk ?_ _ | refine le_ext ?_ | refine le_alloc ?_ _ | refine le_setC ?_ _ _ | refine le_drew ?_ | assumption | (refine Nat.le_of_lt ?_; omega) | omega)))⟩
    · go_wp2
      go_ret
      have e := Hj.out
      rw [List.drop_eq_nil_of_le (by omega), ratsF] at e
      exact ⟨by rw [← e]; rfl, hy⟩
set_option maxHeartbeats 1000000 in
theorem FormatRationals_any {A : Option Addr} {c : Nat} {xs : List (Int × Int)} {w : World} (hx : xs.length ≤ 1000000000) (h1 : RR w A xs) :
    Calls Try.prog 11 #[.slice A xs.length c] w fun e w' => e = .returned (.string (ratsF 0 ⟨#[]⟩ xs)) ∧ ∃ y, w' = ext w y := by
  go_enter Try.func11, Try.ntmps11
  go_wp2
  go_loopw [3, 9] (fun v i wr => ∃ (k : Nat) (F : List Nat), i = .int .i64 k ∧ k ≤ xs.length ∧ SV 9 1 sS wr v ((xs.take k).map ratText) F ∧ (∀ b ∈ F, w.heap.size ≤ b) ∧ (∃ y, wr = ext w y) ∧ ∀ r ∈ xs.take k, isVR r = true) (fun _ i _ => xs.length - (intOf i).toNat)
  case atStart => exact ⟨0, [], rfl, by omega, SV.nil, by simp, refl_ext w, by simp⟩
  case round =>
    obtain ⟨k, F, rfl, hk, hS, hF, hy, hj⟩ := hrel
    have Hj := Lib.hid hj
    have HF := Lib.hid hF
    clear hj hF
    have h1' := h1.toExt hy
    by_cases hlt : k < xs.length
    · obtain ⟨b, o, rfl, hb, hc, hd⟩ := h1'.atR hlt
      obtain ⟨t, ht⟩ : ∃ t, ratText (xs[k].1, xs[k].2) = t := ⟨_, rfl⟩
      have Ht := Lib.hid ht
      by_cases hv : isVR xs[k] = true
      · obtain ⟨z1, z2⟩ := ratText_size hv
        rw [show ratText xs[k] = t from ht] at z1 z2
        have hne := isEmpty_no z1
        have HE := Lib.hid (show ((xs.take k).map ratText) ++ [t] = (xs.take (k + 1)).map ratText by rw [List.take_succ_eq_append_getElem hlt, List.map_append, ← ht]; rfl)
        have HV := Lib.hid (show ∀ r ∈ xs.take (k + 1), isVR r = true by
          intro r hr
          rw [List.take_succ_eq_append_getElem hlt] at hr
          rcases List.mem_append.1 hr with h | h
          · exact Hj.out r h
          · rw [List.mem_singleton.1 h]; exact hv)
        have hlk : ((xs.take k).map ratText).length + 1 ≤ 2000000000 := by simp; omega
        clear ht hv
        go_wp2_with (first
          | (go_at_call 7; refine FormatRational_any.mono ?_; rintro e w2 ⟨rfl, hx2⟩; rw [Ht.out])
          | (at_builtin; refine wpList_app1 (E := sS) (d := t) rfl _ _ _ rfl tS rfl rfl rfl (by simp) (fun _ => ⟨rfl, rfl⟩) rfl (by simp [Value.oneCell']) (hS.toExt (by refine Chg.isExt (F := []) ?_ (refl_ext _) (by simp); repeat (with_reducible (first | exact Chg.refl _ _ | exact Nat.le_refl _ | exact Chg.ofExt (by assumption) | refine Chg.trans0 ?_ (by assumption) | refine Chg.extS ?_ _ | refine Chg.alloc ?_ _ | refine Chg.drew ?_ | refine Chg.setCellE ?_ ?_ _ | refine le_addk ?_ _ | refine le_ext ?_ | refine le_alloc ?_ _ | refine le_setC ?_ _ _ | refine le_drew ?_ | assumption | (refine Nat.le_of_lt ?_; omega) | omega)))) hlk (by omega) ?_; intro v' w' F' hS' hC' hF'))
        exact ⟨⟨k + 1, F', by go_num, by omega, by rw [← HE.out]; exact hS', newer HF.out (size_of_ext (by refine Chg.isExt (F := []) ?_ (refl_ext _) (by simp); repeat (with_reducible (first | exact Chg.refl _ _ | exact Nat.le_refl _ | exact Chg.ofExt (by assumption) | refine Chg.trans0 ?_ (by assumption) | refine Chg.extS ?_ _ | refine Chg.alloc ?_ _ | refine Chg.drew ?_ | refine Chg.setCellE ?_ ?_ _ | refine le_addk ?_ _ | refine le_ext ?_ | refine le_alloc ?_ _ | refine le_setC ?_ _ _ | refine le_drew ?_ | assumption | (refine Nat.le_of_lt ?_; omega) | omega)))) hF', hC'.isExt (by refine Chg.isExt (F := []) ?_ (refl_ext _) (by simp); repeat (with_reducible (first | exact Chg.refl _ _ | exact Nat.le_refl _ | exact Chg.ofExt (by assumption) | refine Chg.trans0 ?_ (by assumption) | refine Chg.extS ?_ _ | refine Chg.alloc ?_ _ | refine Chg.drew ?_ | refine Chg.setCellE ?_ ?_ _ | refine le_addk ?_ _ | refine le_ext ?_ | refine le_alloc ?_ _ | refine le_setC ?_ _ _ | refine le_drew ?_ | assumption | (refine Nat.le_of_lt ?_; omega) | omega))) HF.out, HV.out⟩, by simp [intOf]; omega⟩
      · have hv' : isVR xs[k] = false := by simpa using hv
        have ht0 : t = ⟨#[]⟩ := by rw [← ht]; show ratText xs[k] = _; unfold ratText; rw [if_neg hv]
        subst ht0
        have HE := Lib.hid (show ratsF 0 ⟨#[]⟩ xs = ⟨#[]⟩ from ratsF_bad xs 0 _ ⟨xs[k], List.getElem_mem hlt, hv'⟩)
        clear ht hv hv'
        go_wp2_with (first
          | (go_at_call 7; refine FormatRational_any.mono ?_; rintro e w2 ⟨rfl, hx2⟩; rw [Ht.out]))
        go_ret
        exact ⟨by rw [HE.out]; rfl, (by refine Chg.isExt (F := []) ?_ (refl_ext _) (by simp); repeat (with_reducible (first | exact Chg.refl _ _ | exact Nat.le_refl _ | exact Chg.ofExt (by assumption) | refine Chg.trans0 ?_ (by assumption) | refine Chg.extS ?_ _ | refine Chg.alloc ?_ _ | refine Chg.drew ?_ | refine Chg.setCellE ?_ ?_ _ | refine le_addk ?_ _ | refine le_ext ?_ | refine le_alloc ?_ _ | refine le_setC ?_ _ _ | refine le_drew ?_ | assumption | (refine Nat.le_of_lt ?_; omega) | omega)))⟩
    · have e : xs.take k = xs := List.take_of_length_le (by omega)
      rw [e] at hS
      have hj := Hj.out
      rw [e] at hj
      have HE := Lib.hid (show ratsF 0 ⟨#[]⟩ xs = joinF ⟨#[32]⟩ 0 ⟨#[]⟩ (xs.map ratText) from ratsF_join xs 0 _ hj)
      have HJ := Lib.hid hj
      obtain ⟨A', cap, rfl, _, _, hV⟩ := hS.view sS_v
      rw [List.length_map] at *
      clear e hj
      go_wp2_with (go_at_call 32; refine (join_n (ps := xs.map ratText) (by simp) (by omega) hV (by decide) (fun j h => by simp at h ⊢; have := ratText_size (HJ.out xs[j] (List.getElem_mem h)); omega)).mono ?_; rintro e w2 ⟨rfl, hx2⟩)
      go_ret
      exact ⟨by rw [HE.out]; rfl, (by refine Chg.isExt (F := []) ?_ (refl_ext _) (by simp); repeat (with_reducible (first | exact Chg.refl _ _ | exact Nat.le_refl _ | exact Chg.ofExt (by assumption) | refine Chg.trans0 ?_ (by assumption) | refine Chg.extS ?_ _ | refine Chg.alloc ?_ _ | refine Chg.drew ?_ | refine Chg.setCellE ?_ ?_ _ | refine le_addk ?_ _ | refine le_ext ?_ | refine le_alloc ?_ _ | refine le_setC ?_ _ _ | refine le_drew ?_ | assumption | (refine Nat.le_of_lt ?_; omega) | omega)))⟩
end Go.Proofs.Ythhdmdmjadpgjaa
