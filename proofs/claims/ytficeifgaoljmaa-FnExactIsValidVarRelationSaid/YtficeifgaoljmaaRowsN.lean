/- The laws' helpers on rows of rows: the size, a copy, equality, marks written and looked for. -/
import Derived.Test.YtficeifgaoljmaaNest
import Derived.Test.YtficeifgaoljmaaInts
namespace Go.Proofs.Ytficeifgaoljmaa
open Go.RowKit

/-! plain laws -/
section
variable {α : Type}
def szG (f : Int → α → Int) : Int → List α → Int
  | l, [] => l
  | l, x :: xs => if f l x < 0 then -1 else szG f (f l x) xs
def szN (f : Int → α → Int) (left : Int) (xs : List α) : Int := if left - xs.length < 0 then -1 else szG f (left - xs.length) xs
theorem szG_step {f : Int → α → Int} {l : Int} {xs : List α} {k : Nat} (h : k < xs.length) (h1 : 0 ≤ f l xs[k]) : szG f l (xs.drop k) = szG f (f l xs[k]) (xs.drop (k + 1)) := by
  rw [List.drop_eq_getElem_cons h, szG, if_neg (by omega)]
theorem szG_stop {f : Int → α → Int} {l : Int} {xs : List α} {k : Nat} (h : k < xs.length) (h1 : f l xs[k] < 0) : szG f l (xs.drop k) = -1 := by
  rw [List.drop_eq_getElem_cons h, szG, if_pos h1]
theorem szG_end {f : Int → α → Int} {l : Int} {xs : List α} {k : Nat} (h : ¬ k < xs.length) : szG f l (xs.drop k) = l := by
  rw [List.drop_eq_nil_of_le (by omega), szG]
theorem szG_le {f : Int → α → Int} (hf : ∀ l x, 0 ≤ f l x → f l x ≤ l) : ∀ (xs : List α) (l : Int), 0 ≤ szG f l xs → szG f l xs ≤ l
  | [], l, _ => Int.le_refl l
  | x :: xs, l, h => by
    rw [szG] at h ⊢
    split at h
    · omega
    · rename_i h1
      rw [if_neg h1]
      exact Int.le_trans (szG_le hf xs _ h) (hf l x (by omega))
theorem szG_each {f : Int → α → Int} {c : α → Nat} (hf : ∀ l x, 0 ≤ f l x → f l x ≤ l - c x) : ∀ (xs : List α) (l : Int), 0 ≤ szG f l xs → szG f l xs + ((xs.map c).sum : Nat) ≤ l
  | [], l, _ => by simp [szG]
  | x :: xs, l, h => by
    rw [szG] at h ⊢
    split at h
    · omega
    · rename_i h1
      rw [if_neg h1]
      have h2 := szG_each hf xs _ h
      have h3 := hf l x (by omega)
      rw [List.map_cons, List.sum_cons]
      omega
theorem szN_le {f : Int → α → Int} (hf : ∀ l x, 0 ≤ f l x → f l x ≤ l) {left : Int} {xs : List α} (h : 0 ≤ szN f left xs) : szN f left xs ≤ left := by
  unfold szN at h ⊢
  split at h
  · omega
  · rename_i h1
    rw [if_neg h1]
    have := szG_le hf xs _ h
    omega
theorem szN_small {f : Int → α → Int} {c : α → Nat} (hf : ∀ l x, 0 ≤ f l x → f l x ≤ l - c x) {left : Int} {xs : List α} (h : 0 ≤ szN f left xs) : (xs.length : Int) + ((xs.map c).sum : Nat) ≤ left := by
  unfold szN at h
  split at h
  · omega
  · have := szG_each hf xs _ h
    omega
theorem sum_each {c : α → Nat} : ∀ {xs : List α} {x : α}, x ∈ xs → c x ≤ (xs.map c).sum
  | y :: xs, x, h => by
    rw [List.map_cons, List.sum_cons]
    rcases List.mem_cons.1 h with e | e
    · subst e; omega
    · have := sum_each (c := c) e
      omega
/-- marks written into a row, element by element -/
def mkN (mk : Int → α → α × Int) : Int → List α → List α × Int
  | k, [] => ([], k)
  | k, x :: xs => ((mk k x).1 :: (mkN mk (mk k x).2 xs).1, (mkN mk (mk k x).2 xs).2)
@[simp] theorem mkN_length (mk : Int → α → α × Int) : ∀ (xs : List α) (k : Int), (mkN mk k xs).1.length = xs.length
  | [], _ => rfl
  | x :: xs, k => by simp [mkN, mkN_length mk xs]
theorem mkN_append (mk : Int → α → α × Int) : ∀ (xs ys : List α) (k : Int), mkN mk k (xs ++ ys) = ((mkN mk k xs).1 ++ (mkN mk (mkN mk k xs).2 ys).1, (mkN mk (mkN mk k xs).2 ys).2)
  | [], ys, k => rfl
  | x :: xs, ys, k => by simp [mkN, mkN_append mk xs]
theorem mkN_take {mk : Int → α → α × Int} {k : Int} {xs : List α} {i : Nat} (h : i < xs.length) : mkN mk k (xs.take (i + 1)) = ((mkN mk k (xs.take i)).1 ++ [(mk (mkN mk k (xs.take i)).2 xs[i]).1], (mk (mkN mk k (xs.take i)).2 xs[i]).2) := by
  rw [List.take_succ_eq_append_getElem h, mkN_append]
  rfl
theorem mkN_at {mk : Int → α → α × Int} {k : Int} {xs : List α} {i : Nat} (h : i < xs.length) : (mkN mk k xs).1[i]'(by simpa using h) = (mk (mkN mk k (xs.take i)).2 xs[i]).1 := by
  have e : xs = xs.take i ++ (xs[i] :: xs.drop (i + 1)) := by rw [← List.drop_eq_getElem_cons h, List.take_append_drop]
  have e2 : (mkN mk k xs).1[i]? = (mkN mk k (xs.take i ++ (xs[i] :: xs.drop (i + 1)))).1[i]? := by rw [← e]
  rw [mkN_append] at e2
  simp only [mkN] at e2
  rw [List.getElem?_append_right (by simp; omega)] at e2
  rw [List.getElem?_eq_getElem (by simpa using h)] at e2
  simp at e2
  have hz : i - min i xs.length = 0 := by omega
  rw [hz] at e2
  simpa using e2
theorem mkN_sum {mk : Int → α → α × Int} {c : α → Nat} (hm : ∀ k x, (mk k x).2 = k + c x) : ∀ (xs : List α) (k : Int), (mkN mk k xs).2 = k + ((xs.map c).sum : Nat)
  | [], k => by simp [mkN]
  | x :: xs, k => by
    rw [mkN]
    simp only
    rw [mkN_sum hm xs, hm, List.map_cons, List.sum_cons]
    omega
theorem sum_take_le {c : α → Nat} (xs : List α) (i : Nat) : ((xs.take i).map c).sum ≤ (xs.map c).sum := by
  conv => rhs; rw [← List.take_append_drop i xs]
  rw [List.map_append, List.sum_append]
  omega
theorem mk_set {mk : Int → α → α × Int} {k : Int} {xs : List α} {i : Nat} (h : i < xs.length) : ((mkN mk k (xs.take i)).1 ++ xs.drop i).set i (mk (mkN mk k (xs.take i)).2 xs[i]).1 = (mkN mk k (xs.take (i + 1))).1 ++ xs.drop (i + 1) := by
  rw [mkN_take h, List.set_append_right _ _ (by simp; omega), show i - (mkN mk k (xs.take i)).1.length = 0 by simp; omega, List.drop_eq_getElem_cons h, List.set_cons_zero]
  simp
theorem mk_get {mk : Int → α → α × Int} {k : Int} {xs : List α} {i : Nat} (h : i < xs.length) (h' : i < ((mkN mk k (xs.take i)).1 ++ xs.drop i).length) : ((mkN mk k (xs.take i)).1 ++ xs.drop i)[i] = xs[i] := by
  rw [List.getElem_append_right (by simp; omega)]
  simp [show i - min i xs.length = 0 by omega]
theorem nodup_more {F G : List Nat} {n : Nat} (h1 : F.Nodup) (h2 : G.Nodup) (h3 : ∀ b ∈ F, b < n) (h4 : ∀ b ∈ G, n ≤ b) : (F ++ G).Nodup :=
  List.nodup_append.2 ⟨h1, h2, fun a ha b hb e => by have := h3 a ha; have := h4 b hb; omega⟩
end
def szI (l : Int) (x : List Int) : Int := szL l x.length
def szR (l : Int) (x : List (Int × Int)) : Int := szL l x.length
theorem szL_sub {l : Int} {n : Nat} (h : 0 ≤ szL l n) : szL l n ≤ l - n := by
  unfold szL at h ⊢
  split at h
  · omega
  · rename_i h1; rw [if_neg h1]; omega
theorem szI_sub (l : Int) (x : List Int) (h : 0 ≤ szI l x) : szI l x ≤ l - x.length := szL_sub h
theorem szR_sub (l : Int) (x : List (Int × Int)) (h : 0 ≤ szR l x) : szR l x ≤ l - x.length := szL_sub h
def mkI (k : Int) (x : List Int) : List Int × Int := (marks k x.length, k + x.length)

theorem tII : SlT Try.prog 23 22 1 24 (.slice none 0 0) := ⟨Try.underlying23, by kernel_rfl, rfl, by omega⟩
set_option maxHeartbeats 1000000 in
theorem szIntSS_any {A : Option Addr} {c : Nat} {xs : List (List Int)} {left : Int} {w : World} (hn : xs.length ≤ 9223372036854775807) (h : RII w A xs) (hl : ∀ x ∈ xs, x.length ≤ 9223372036854775807) (h1 : 0 ≤ left) (h2 : left ≤ 1000000000) :
    Calls Try.prog 26 #[.slice A xs.length c, .int .i64 left] w fun e w' => e = .returned (.int .i64 (szN szI left xs)) ∧ ∃ y, w' = ext w y := by
  have Hl := Lib.hid hl
  clear hl
  by_cases h0 : left - xs.length < 0
  · rw [show szN szI left xs = -1 by unfold szN; rw [if_pos h0]]
    go_enter Try.func26, Try.ntmps26
    go_wp2
    go_ret
    exact ⟨rfl, refl_ext w⟩
  · rw [show szN szI left xs = szG szI (left - xs.length) xs by unfold szN; rw [if_neg h0]]
    go_enter Try.func26, Try.ntmps26
    go_wp2
    go_loopw [1, 5] (fun m i wr => ∃ (k : Nat) (l : Int), m = .int .i64 l ∧ i = .int .i64 k ∧ k ≤ xs.length ∧ 0 ≤ l ∧ l ≤ left ∧ szG szI l (xs.drop k) = szG szI (left - xs.length) xs ∧ ∃ y, wr = ext w y) (fun _ i _ => xs.length - (intOf i).toNat)
    case atStart => exact ⟨0, left - xs.length, rfl, rfl, by omega, by omega, by omega, by simp, refl_ext w⟩
    case round =>
      obtain ⟨k, l, rfl, rfl, hk, hl0, hl1, hj, hy⟩ := hrel
      have Hj := Lib.hid hj
      clear hj
      have h' := h.toExt hy
      by_cases hlt : k < xs.length
      · obtain ⟨b, o, A', c', rfl, hb, hc, hv⟩ := h'.atV hlt
        have hle := Hl.out xs[k] (List.getElem_mem hlt)
        by_cases hs : 0 ≤ szI l xs[k]
        · have e := Hj.out
          rw [szG_step hlt hs] at e
          have he := szI_sub l xs[k] hs
          obtain ⟨r, hr⟩ : ∃ r, szI l xs[k] = r := ⟨_, rfl⟩
          rw [hr] at e hs he
          have He := Lib.hid e
          have Hr := Lib.hid hr
          clear e hr
          go_wp2_with (go_at_call 12; refine (szIntS_any hle (by omega) (by omega)).mono ?_; rintro e w' ⟨rfl, rfl⟩; rw [show szL l xs[k].length = r from Hr.out])
          exact ⟨⟨k + 1, r, rfl, by go_num, by omega, by omega, by omega, He.out, (by refine Chg.isExt (F := []) ?_ (refl_ext _) (by simp); repeat (with_reducible (first | exact Chg.refl _ _ | exact Nat.le_refl _ | exact Chg.ofExt (by assumption) | refine Chg.trans0 ?_ (by assumption) | refine Chg.extS ?_ _ | refine Chg.alloc ?_ _ | refine Chg.drew ?_ | refine Chg.setCellE ?_ ?_ _ | refine le_addk ?_ _ | refine le_ext ?_ | refine le_alloc ?_ _ | refine le_setC ?_ _ _ | refine le_drew ?_ | assumption | (refine Nat.le_of_lt ?_; omega) | omega)))⟩, by simp [intOf]; omega⟩
        · have hs : szI l xs[k] < 0 := by omega
          have e := Hj.out
          rw [szG_stop hlt hs] at e
          obtain ⟨r, hr⟩ : ∃ r, szI l xs[k] = r := ⟨_, rfl⟩
          rw [hr] at hs
          have He := Lib.hid e
          have Hr := Lib.hid hr
          clear e hr
          go_wp2_with (go_at_call 12; refine (szIntS_any hle (by omega) (by omega)).mono ?_; rintro e w' ⟨rfl, rfl⟩; rw [show szL l xs[k].length = r from Hr.out])
          go_ret
          exact ⟨by rw [← He.out]; rfl, (by refine Chg.isExt (F := []) ?_ (refl_ext _) (by simp); repeat (with_reducible (first | exact Chg.refl _ _ | exact Nat.le_refl _ | exact Chg.ofExt (by assumption) | refine Chg.trans0 ?_ (by assumption) | refine Chg.extS ?_ _ | refine Chg.alloc ?_ _ | refine Chg.drew ?_ | refine Chg.setCellE ?_ ?_ _ | refine le_addk ?_ _ | refine le_ext ?_ | refine le_alloc ?_ _ | refine le_setC ?_ _ _ | refine le_drew ?_ | assumption | (refine Nat.le_of_lt ?_; omega) | omega)))⟩
      · go_wp2
        go_ret
        have e := Hj.out
        rw [szG_end hlt] at e
        exact ⟨by rw [← e]; rfl, hy⟩
set_option maxHeartbeats 1000000 in
theorem toIntSS_any {A : Option Addr} {c : Nat} {xs : List (List Int)} {w : World} (hx : xs.length ≤ 1048576) (h1 : RII w A xs) (hl : ∀ x ∈ xs, x.length ≤ 1048576) :
    Calls Try.prog 27 #[.slice A xs.length c] w fun e w' => ∃ v F, e = .returned v ∧ (∃ y, w' = ext w y) ∧ SV 22 1 (sSl 3 1 sI) w' v xs F ∧ F.Nodup ∧ ∀ b ∈ F, w.heap.size ≤ b := by
  have Hl := Lib.hid hl
  clear hl
  go_enter Try.func27, Try.ntmps27
  go_wp2_with (at_make; refine wpList_makeF (E := (sSl 3 1 sI)) _ rfl _ _ _ rfl tII rfl rfl xs (by omega) (by omega) ?_; intro w1 hS hx1 hg1)
  go_loopw [4] (fun i wr => ∃ (k : Nat) (F : List Nat), i = .int .i64 k ∧ k ≤ xs.length ∧ Fill 22 1 (sSl 3 1 sI) wr (.slice (some ⟨w.heap.size, 0, none⟩) xs.length xs.length) xs.length [.slice none 0 0] xs k F ∧ F.Nodup ∧ (∀ b ∈ F, w.heap.size ≤ b) ∧ ∃ y, wr = ext w y) (fun i _ => xs.length - (intOf i).toNat)
  case atStart => exact ⟨0, _, rfl, by omega, hS, by simp, by simp, hx1⟩
  case round =>
    obtain ⟨k, F, rfl, hk, hSk, hN, hF, hy⟩ := hrel
    have HF := Lib.hid hF
    have HN := Lib.hid hN
    clear hF hN
    have h1' := h1.toExt hy
    by_cases hlt : k < xs.length
    · obtain ⟨b, o, A', c', rfl, hb, hc, hv⟩ := h1'.atV hlt
      have hle := Hl.out xs[k] (List.getElem_mem hlt)
      clear hS hx1
      go_wp2_with (go_at_call 16; refine (toIntS_any hle hv).mono ?_; rintro e w2 ⟨v2, F2, rfl, hx2, hS2, hF2⟩; obtain ⟨A2, c2, rfl, _⟩ := hS2.form; have HS := Lib.hid (hSk.toExt hx2); have Hc := HS.out.cell (j := k) (by omega); obtain ⟨⟨u, hu⟩, hf, hg⟩ := Hc)
      obtain ⟨h3, h4⟩ := HS.out.put1 hlt rfl (Fk := F2) ⟨_, rfl, hS2⟩ (nodup_more HN.out hS2.nodup hSk.lt hF2)
      exact ⟨⟨k + 1, F ++ F2, by go_num, by omega, h3, nodup_more HN.out hS2.nodup hSk.lt hF2, fun b hb => by
        rcases List.mem_append.1 hb with h | h
        · exact HF.out b h
        · exact Nat.le_trans (size_of_ext hy) (hF2 b h), (h4.isExt (trans_ext hy hx2) (by simp))⟩, by simp [intOf]; omega⟩
    · go_wp2
      go_ret
      exact ⟨_, F, rfl, hy, hSk.done rfl (by omega), HN.out, HF.out⟩
set_option maxHeartbeats 1000000 in
theorem eqIntSS_any {A A' : Option Addr} {c c' : Nat} {xs ys : List (List Int)} {w : World} (hx : xs.length ≤ 1000000000) (h1 : RII w A xs) (hxl : ∀ x ∈ xs, x.length ≤ 1000000000) (hy : ys.length ≤ 1000000000) (h2 : RII w A' ys) (hyl : ∀ x ∈ ys, x.length ≤ 1000000000) :
    Calls Try.prog 29 #[.slice A xs.length c, .slice A' ys.length c'] w fun e w' => e = .returned (.bool (decide (xs = ys))) ∧ ∃ y, w' = ext w y := by
  have Hxl := Lib.hid hxl
  have Hyl := Lib.hid hyl
  clear hxl hyl
  by_cases hl : xs.length = ys.length
  · have hn : ((xs.length : Int) != (ys.length : Int)) = false := by simp [hl]
    have hl2 : ys.length ≤ xs.length := by omega
    have hl3 : xs.length ≤ ys.length := by omega
    have HL := Lib.hid hl
    clear hl
    go_enter Try.func29, Try.ntmps29
    go_wp2
    go_loopw [5] (fun i wr => ∃ k : Nat, i = .int .i64 k ∧ k ≤ xs.length ∧ xs.take k = ys.take k ∧ ∃ y, wr = ext w y) (fun i _ => xs.length - (intOf i).toNat)
    case atStart => exact ⟨0, rfl, by omega, by simp, refl_ext w⟩
    case round =>
      obtain ⟨k, rfl, hk, ht, hy⟩ := hrel
      have Ht := Lib.hid ht
      clear ht
      have h1' := h1.toExt hy
      have h2' := h2.toExt hy
      by_cases hlt : k < xs.length
      · have hlt2 : k < ys.length := by omega
        obtain ⟨b, o, A1, c1, rfl, hb, hc, hv⟩ := h1'.atV hlt
        obtain ⟨b', o', A2, c2, rfl, hb', hc', hv'⟩ := h2'.atV hlt2
        have q1 := Hxl.out xs[k] (List.getElem_mem hlt)
        have q2 := Hyl.out ys[k] (List.getElem_mem hlt2)
        by_cases he : xs[k] = ys[k]
        · have He := Lib.hid he
          have Hd := Lib.hid (show decide (xs[k] = ys[k]) = true by simp [he])
          clear he
          go_wp2
          refine wp_region_ext (by kernel_rfl) (by kernel_rfl) ?_
          repeat (go_big_quiet_step ((go_at_call 20; exact quietEb (eqIntS_any q1 hv.ext q2 hv'.ext) Hd.out)))
          refine wpQuiet_nil ?_
          rintro _ ⟨z, rfl⟩
          go_wp2
          exact ⟨⟨k + 1, by go_num, by omega, take_snoc_eq _ _ Ht.out He.out, (by refine Chg.isExt (F := []) ?_ (refl_ext _) (by simp); repeat (with_reducible (first | exact Chg.refl _ _ | exact Nat.le_refl _ | exact Chg.ofExt (by assumption) | refine Chg.trans0 ?_ (by assumption) | refine Chg.extS ?_ _ | refine Chg.alloc ?_ _ | refine Chg.drew ?_ | refine Chg.setCellE ?_ ?_ _ | refine le_addk ?_ _ | refine le_ext ?_ | refine le_alloc ?_ _ | refine le_setC ?_ _ _ | refine le_drew ?_ | assumption | (refine Nat.le_of_lt ?_; omega) | omega)))⟩, by simp [intOf]; omega⟩
        · have He := Lib.hid he
          have Hd := Lib.hid (show decide (xs[k] = ys[k]) = false by simp [he])
          clear he
          go_wp2
          refine wp_region_ext (by kernel_rfl) (by kernel_rfl) ?_
          repeat (go_big_quiet_step ((go_at_call 20; exact quietEb (eqIntS_any q1 hv.ext q2 hv'.ext) Hd.out)))
          refine wpQuiet_nil ?_
          rintro _ ⟨z, rfl⟩
          go_wp2
          go_ret
          exact ⟨by rw [decide_eq_false (ne_of_at hlt hlt2 He.out)]; rfl, (by refine Chg.isExt (F := []) ?_ (refl_ext _) (by simp); repeat (with_reducible (first | exact Chg.refl _ _ | exact Nat.le_refl _ | exact Chg.ofExt (by assumption) | refine Chg.trans0 ?_ (by assumption) | refine Chg.extS ?_ _ | refine Chg.alloc ?_ _ | refine Chg.drew ?_ | refine Chg.setCellE ?_ ?_ _ | refine le_addk ?_ _ | refine le_ext ?_ | refine le_alloc ?_ _ | refine le_setC ?_ _ _ | refine le_drew ?_ | assumption | (refine Nat.le_of_lt ?_; omega) | omega)))⟩
      · go_wp2
        go_ret
        exact ⟨by rw [decide_eq_true (all_eq HL.out hlt Ht.out)]; rfl, hy⟩
  · have hn : ((xs.length : Int) != (ys.length : Int)) = true := by simp; omega
    go_enter Try.func29, Try.ntmps29
    go_wp2
    go_ret
    exact ⟨by rw [decide_eq_false (by rintro rfl; exact hl rfl)]; rfl, refl_ext w⟩
end Go.Proofs.Ytficeifgaoljmaa
