/- The laws' helpers on rows of rows: the size, a copy, equality, marks written and looked for. -/
import Derived.Test.YtnchebfemacebaaNest
import Derived.Test.YtnchebfemacebaaInts
import Derived.Test.YtnchebfemacebaaRats
import Derived.Test.YtnchebfemacebaaRatMarks
namespace Go.Proofs.Ytnchebfemacebaa
open Go.RowKit

/-! plain laws -/
section
variable {α : Type}
def szG (f : Int → α → Int) : Int → List α → Int
  | l, [] => l
  | l, x :: xs => if f l x < 0 then -1 else szG f (f l x) xs
def szN (f : Int → α → Int) (left : Int) (xs : List α) : Int := if left - xs.length < 0 then -1 else szG f (left - xs.length) xs
theorem szG_step {f : Int → α → Int} {l : Int} {xs : List α} {k : Nat} (h : k < xs.length) (h1 : 0 ≤ f l xs[k]) : szG f l (xs.drop k) = szG f (f l xs[k]) (xs.drop (k + 1)) := by
  rw [List.drop_eq_getElem_cons h, szG, if_neg (by omega)]
theorem szG_stop {f : Int → α → Int} {l : Int} {xs : List α} {k : Nat} (h : k < xs.length) (h1 : f l xs[k] < 0) : szG f l (xs.drop k) = -1 := by
  rw [List.drop_eq_getElem_cons h, szG, if_pos h1]
theorem szG_end {f : Int → α → Int} {l : Int} {xs : List α} {k : Nat} (h : ¬ k < xs.length) : szG f l (xs.drop k) = l := by
  rw [List.drop_eq_nil_of_le (by omega), szG]
theorem szG_le {f : Int → α → Int} (hf : ∀ l x, 0 ≤ f l x → f l x ≤ l) : ∀ (xs : List α) (l : Int), 0 ≤ szG f l xs → szG f l xs ≤ l
  | [], l, _ => Int.le_refl l
  | x :: xs, l, h => by
    rw [szG] at h ⊢
    split at h
    · omega
    · rename_i h1
      rw [if_neg h1]
      exact Int.le_trans (szG_le hf xs _ h) (hf l x (by omega))
theorem szG_each {f : Int → α → Int} {c : α → Nat} (hf : ∀ l x, 0 ≤ f l x → f l x ≤ l - c x) : ∀ (xs : List α) (l : Int), 0 ≤ szG f l xs → szG f l xs + ((xs.map c).sum : Nat) ≤ l
  | [], l, _ => by simp [szG]
  | x :: xs, l, h => by
    rw [szG] at h ⊢
    split at h
    · omega
    · rename_i h1
      rw [if_neg h1]
      have h2 := szG_each hf xs _ h
      have h3 := hf l x (by omega)
      rw [List.map_cons, List.sum_cons]
      omega
theorem szN_le {f : Int → α → Int} (hf : ∀ l x, 0 ≤ f l x → f l x ≤ l) {left : Int} {xs : List α} (h : 0 ≤ szN f left xs) : szN f left xs ≤ left := by
  unfold szN at h ⊢
  split at h
  · omega
  · rename_i h1
    rw [if_neg h1]
    have := szG_le hf xs _ h
    omega
theorem szN_small {f : Int → α → Int} {c : α → Nat} (hf : ∀ l x, 0 ≤ f l x → f l x ≤ l - c x) {left : Int} {xs : List α} (h : 0 ≤ szN f left xs) : (xs.length : Int) + ((xs.map c).sum : Nat) ≤ left := by
  unfold szN at h
  split at h
  · omega
  · have := szG_each hf xs _ h
    omega
theorem sum_each {c : α → Nat} : ∀ {xs : List α} {x : α}, x ∈ xs → c x ≤ (xs.map c).sum
  | y :: xs, x, h => by
    rw [List.map_cons, List.sum_cons]
    rcases List.mem_cons.1 h with e | e
    · subst e; omega
    · have := sum_each (c := c) e
      omega
/-- marks written into a row, element by element -/
def mkN (mk : Int → α → α × Int) : Int → List α → List α × Int
  | k, [] => ([], k)
  | k, x :: xs => ((mk k x).1 :: (mkN mk (mk k x).2 xs).1, (mkN mk (mk k x).2 xs).2)
@[simp] theorem mkN_length (mk : Int → α → α × Int) : ∀ (xs : List α) (k : Int), (mkN mk k xs).1.length = xs.length
  | [], _ => rfl
  | x :: xs, k => by simp [mkN, mkN_length mk xs]
theorem mkN_append (mk : Int → α → α × Int) : ∀ (xs ys : List α) (k : Int), mkN mk k (xs ++ ys) = ((mkN mk k xs).1 ++ (mkN mk (mkN mk k xs).2 ys).1, (mkN mk (mkN mk k xs).2 ys).2)
  | [], ys, k => rfl
  | x :: xs, ys, k => by simp [mkN, mkN_append mk xs]
theorem mkN_take {mk : Int → α → α × Int} {k : Int} {xs : List α} {i : Nat} (h : i < xs.length) : mkN mk k (xs.take (i + 1)) = ((mkN mk k (xs.take i)).1 ++ [(mk (mkN mk k (xs.take i)).2 xs[i]).1], (mk (mkN mk k (xs.take i)).2 xs[i]).2) := by
  rw [List.take_succ_eq_append_getElem h, mkN_append]
  rfl
theorem mkN_at {mk : Int → α → α × Int} {k : Int} {xs : List α} {i : Nat} (h : i < xs.length) : (mkN mk k xs).1[i]'(by simpa using h) = (mk (mkN mk k (xs.take i)).2 xs[i]).1 := by
  have e : xs = xs.take i ++ (xs[i] :: xs.drop (i + 1)) := by rw [← List.drop_eq_getElem_cons h, List.take_append_drop]
  have e2 : (mkN mk k xs).1[i]? = (mkN mk k (xs.take i ++ (xs[i] :: xs.drop (i + 1)))).1[i]? := by rw [← e]
  rw [mkN_append] at e2
  simp only [mkN] at e2
  rw [List.getElem?_append_right (by simp; omega)] at e2
  rw [List.getElem?_eq_getElem (by simpa using h)] at e2
  simp at e2
  have hz : i - min i xs.length = 0 := by omega
  rw [hz] at e2
  simpa using e2
theorem mkN_sum {mk : Int → α → α × Int} {c : α → Nat} (hm : ∀ k x, (mk k x).2 = k + c x) : ∀ (xs : List α) (k : Int), (mkN mk k xs).2 = k + ((xs.map c).sum : Nat)
  | [], k => by simp [mkN]
  | x :: xs, k => by
    rw [mkN]
    simp only
    rw [mkN_sum hm xs, hm, List.map_cons, List.sum_cons]
    omega
theorem sum_take_le {c : α → Nat} (xs : List α) (i : Nat) : ((xs.take i).map c).sum ≤ (xs.map c).sum := by
  conv => rhs; rw [← List.take_append_drop i xs]
  rw [List.map_append, List.sum_append]
  omega
theorem mk_set {mk : Int → α → α × Int} {k : Int} {xs : List α} {i : Nat} (h : i < xs.length) : ((mkN mk k (xs.take i)).1 ++ xs.drop i).set i (mk (mkN mk k (xs.take i)).2 xs[i]).1 = (mkN mk k (xs.take (i + 1))).1 ++ xs.drop (i + 1) := by
  rw [mkN_take h, List.set_append_right _ _ (by simp; omega), show i - (mkN mk k (xs.take i)).1.length = 0 by simp; omega, List.drop_eq_getElem_cons h, List.set_cons_zero]
  simp
theorem mk_get {mk : Int → α → α × Int} {k : Int} {xs : List α} {i : Nat} (h : i < xs.length) (h' : i < ((mkN mk k (xs.take i)).1 ++ xs.drop i).length) : ((mkN mk k (xs.take i)).1 ++ xs.drop i)[i] = xs[i] := by
  rw [List.getElem_append_right (by simp; omega)]
  simp [show i - min i xs.length = 0 by omega]
theorem nodup_more {F G : List Nat} {n : Nat} (h1 : F.Nodup) (h2 : G.Nodup) (h3 : ∀ b ∈ F, b < n) (h4 : ∀ b ∈ G, n ≤ b) : (F ++ G).Nodup :=
  List.nodup_append.2 ⟨h1, h2, fun a ha b hb e => by have := h3 a ha; have := h4 b hb; omega⟩
end
def szI (l : Int) (x : List Int) : Int := szL l x.length
def szR (l : Int) (x : List (Int × Int)) : Int := szL l x.length
theorem szL_sub {l : Int} {n : Nat} (h : 0 ≤ szL l n) : szL l n ≤ l - n := by
  unfold szL at h ⊢
  split at h
  · omega
  · rename_i h1; rw [if_neg h1]; omega
theorem szI_sub (l : Int) (x : List Int) (h : 0 ≤ szI l x) : szI l x ≤ l - x.length := szL_sub h
theorem szR_sub (l : Int) (x : List (Int × Int)) (h : 0 ≤ szR l x) : szR l x ≤ l - x.length := szL_sub h
def mkI (k : Int) (x : List Int) : List Int × Int := (marks k x.length, k + x.length)
def mkR (k : Int) (x : List (Int × Int)) : List (Int × Int) × Int := (marksR k x.length, k + 2 * x.length)

theorem tRR : SlT Try.prog 47 28 1 24 (.slice none 0 0) := ⟨Try.underlying47, by kernel_rfl, rfl, by omega⟩
set_option maxHeartbeats 1000000 in
theorem szRationalSS_any {A : Option Addr} {c : Nat} {xs : List (List (Int × Int))} {left : Int} {w : World} (hn : xs.length ≤ 9223372036854775807) (h : RRR w A xs) (hl : ∀ x ∈ xs, x.length ≤ 9223372036854775807) (h1 : 0 ≤ left) (h2 : left ≤ 1000000000) :
    Calls Try.prog 36 #[.slice A xs.length c, .int .i64 left] w fun e w' => e = .returned (.int .i64 (szN szR left xs)) ∧ ∃ y, w' = ext w y := by
  have Hl := Lib.hid hl
  clear hl
  by_cases h0 : left - xs.length < 0
  · rw [show szN szR left xs = -1 by unfold szN; rw [if_pos h0]]
    go_enter Try.func36, Try.ntmps36
    go_wp2
    go_ret
    exact ⟨rfl, refl_ext w⟩
  · rw [show szN szR left xs = szG szR (left - xs.length) xs by unfold szN; rw [if_neg h0]]
    go_enter Try.func36, Try.ntmps36
    go_wp2
    go_loopw [1, 5] (fun m i wr => ∃ (k : Nat) (l : Int), m = .int .i64 l ∧ i = .int .i64 k ∧ k ≤ xs.length ∧ 0 ≤ l ∧ l ≤ left ∧ szG szR l (xs.drop k) = szG szR (left - xs.length) xs ∧ ∃ y, wr = ext w y) (fun _ i _ => xs.length - (intOf i).toNat)
    case atStart => exact ⟨0, left - xs.length, rfl, rfl, by omega, by omega, by omega, by simp, refl_ext w⟩
    case round =>
      obtain ⟨k, l, rfl, rfl, hk, hl0, hl1, hj, hy⟩ := hrel
      have Hj := Lib.hid hj
      clear hj
      have h' := h.toExt hy
      by_cases hlt : k < xs.length
      · obtain ⟨b, o, A', c', rfl, hb, hc, hv⟩ := h'.atV hlt
        have hle := Hl.out xs[k] (List.getElem_mem hlt)
        by_cases hs : 0 ≤ szR l xs[k]
        · have e := Hj.out
          rw [szG_step hlt hs] at e
          have he := szR_sub l xs[k] hs
          obtain ⟨r, hr⟩ : ∃ r, szR l xs[k] = r := ⟨_, rfl⟩
          rw [hr] at e hs he
          have He := Lib.hid e
          have Hr := Lib.hid hr
          clear e hr
          go_wp2_with (go_at_call 15; refine (szRationalS_any hle (by omega) (by omega)).mono ?_; rintro e w' ⟨rfl, hx9⟩; rw [show szL l xs[k].length = r from Hr.out])
          exact ⟨⟨k + 1, r, rfl, by go_num, by omega, by omega, by omega, He.out, (by refine Chg.isExt (F := []) ?_ (refl_ext _) (by simp); repeat (with_reducible (first | exact Chg.refl _ _ | exact Nat.le_refl _ | exact Chg.ofExt (by assumption) | refine Chg.trans0 ?_ (by assumption) | refine Chg.extS ?_ _ | refine Chg.alloc ?_ _ | refine Chg.drew ?_ | refine Chg.setCellE ?_ ?_ _ | refine le_addk ?_ _ | refine le_ext ?_ | refine le_alloc ?_ _ | refine le_setC ?_ _ _ | refine le_drew ?_ | assumption | (refine Nat.le_of_lt ?_; omega) | omega)))⟩, by simp [intOf]; omega⟩
        · have hs : szR l xs[k] < 0 := by omega
          have e := Hj.out
          rw [szG_stop hlt hs] at e
          obtain ⟨r, hr⟩ : ∃ r, szR l xs[k] = r := ⟨_, rfl⟩
          rw [hr] at hs
          have He := Lib.hid e
          have Hr := Lib.hid hr
          clear e hr
          go_wp2_with (go_at_call 15; refine (szRationalS_any hle (by omega) (by omega)).mono ?_; rintro e w' ⟨rfl, hx9⟩; rw [show szL l xs[k].length = r from Hr.out])
          go_ret
          exact ⟨by rw [← He.out]; rfl, (by refine Chg.isExt (F := []) ?_ (refl_ext _) (by simp); repeat (with_reducible (first | exact Chg.refl _ _ | exact Nat.le_refl _ | exact Chg.ofExt (by assumption) | refine Chg.trans0 ?_ (by assumption) | refine Chg.extS ?_ _ | refine Chg.alloc ?_ _ | refine Chg.drew ?_ | refine Chg.setCellE ?_ ?_ _ | refine le_addk ?_ _ | refine le_ext ?_ | refine le_alloc ?_ _ | refine le_setC ?_ _ _ | refine le_drew ?_ | assumption | (refine Nat.le_of_lt ?_; omega) | omega)))⟩
      · go_wp2
        go_ret
        have e := Hj.out
        rw [szG_end hlt] at e
        exact ⟨by rw [← e]; rfl, hy⟩
set_option maxHeartbeats 1000000 in
theorem toRationalSS_any {A : Option Addr} {c : Nat} {xs : List (List (Int × Int))} {w : World} (hx : xs.length ≤ 1048576) (h1 : RRR w A xs) (hl : ∀ x ∈ xs, x.length ≤ 1048576) :
    Calls Try.prog 38 #[.slice A xs.length c] w fun e w' => ∃ v F, e = .returned v ∧ (∃ y, w' = ext w y) ∧ SV 28 1 (sSl 25 2 sR) w' v xs F ∧ F.Nodup ∧ ∀ b ∈ F, w.heap.size ≤ b := by
  have Hl := Lib.hid hl
  clear hl
  go_enter Try.func38, Try.ntmps38
  go_wp2_with (at_make; refine wpList_makeF (E := (sSl 25 2 sR)) _ rfl _ _ _ rfl tRR rfl rfl xs (by omega) (by omega) ?_; intro w1 hS hx1 hg1)
  go_loopw [4] (fun i wr => ∃ (k : Nat) (F : List Nat), i = .int .i64 k ∧ k ≤ xs.length ∧ Fill 28 1 (sSl 25 2 sR) wr (.slice (some ⟨w.heap.size, 0, none⟩) xs.length xs.length) xs.length [.slice none 0 0] xs k F ∧ F.Nodup ∧ (∀ b ∈ F, w.heap.size ≤ b) ∧ ∃ y, wr = ext w y) (fun i _ => xs.length - (intOf i).toNat)
  case atStart => exact ⟨0, _, rfl, by omega, hS, by simp, by simp, hx1⟩
  case round =>
    obtain ⟨k, F, rfl, hk, hSk, hN, hF, hy⟩ := hrel
    have HF := Lib.hid hF
    have HN := Lib.hid hN
    clear hF hN
    have h1' := h1.toExt hy
    by_cases hlt : k < xs.length
    · obtain ⟨b, o, A', c', rfl, hb, hc, hv⟩ := h1'.atV hlt
      have hle := Hl.out xs[k] (List.getElem_mem hlt)
      clear hS hx1
      go_wp2_with (go_at_call 17; refine (toRationalS_any hle hv).mono ?_; rintro e w2 ⟨v2, F2, rfl, hx2, hS2, hF2⟩; obtain ⟨A2, c2, rfl, _⟩ := hS2.form; have HS := Lib.hid (hSk.toExt hx2); have Hc := HS.out.cell (j := k) (by omega); obtain ⟨⟨u, hu⟩, hf, hg⟩ := Hc)
      obtain ⟨h3, h4⟩ := HS.out.put1 hlt rfl (Fk := F2) ⟨_, rfl, hS2⟩ (nodup_more HN.out hS2.nodup hSk.lt hF2)
      exact ⟨⟨k + 1, F ++ F2, by go_num, by omega, h3, nodup_more HN.out hS2.nodup hSk.lt hF2, fun b hb => by
        rcases List.mem_append.1 hb with h | h
        · exact HF.out b h
        · exact Nat.le_trans (size_of_ext hy) (hF2 b h), (h4.isExt (trans_ext hy hx2) (by simp))⟩, by simp [intOf]; omega⟩
    · go_wp2
      go_ret
      exact ⟨_, F, rfl, hy, hSk.done rfl (by omega), HN.out, HF.out⟩
set_option maxHeartbeats 1000000 in
theorem eqRationalSS_any {A A' : Option Addr} {c c' : Nat} {xs ys : List (List (Int × Int))} {w : World} (hx : xs.length ≤ 1000000000) (h1 : RRR w A xs) (hxl : ∀ x ∈ xs, x.length ≤ 1000000000) (hy : ys.length ≤ 1000000000) (h2 : RRR w A' ys) (hyl : ∀ x ∈ ys, x.length ≤ 1000000000) :
    Calls Try.prog 40 #[.slice A xs.length c, .slice A' ys.length c'] w fun e w' => e = .returned (.bool (decide (xs = ys))) ∧ ∃ y, w' = ext w y := by
  have Hxl := Lib.hid hxl
  have Hyl := Lib.hid hyl
  clear hxl hyl
  by_cases hl : xs.length = ys.length
  · have hn : ((xs.length : Int) != (ys.length : Int)) = false := by simp [hl]
    have hl2 : ys.length ≤ xs.length := by omega
    have hl3 : xs.length ≤ ys.length := by omega
    have HL := Lib.hid hl
    clear hl
    go_enter Try.func40, Try.ntmps40
    go_wp2
    go_loopw [5] (fun i wr => ∃ k : Nat, i = .int .i64 k ∧ k ≤ xs.length ∧ xs.take k = ys.take k ∧ ∃ y, wr = ext w y) (fun i _ => xs.length - (intOf i).toNat)
    case atStart => exact ⟨0, rfl, by omega, by simp, refl_ext w⟩
    case round =>
      obtain ⟨k, rfl, hk, ht, hy⟩ := hrel
      have Ht := Lib.hid ht
      clear ht
      have h1' := h1.toExt hy
      have h2' := h2.toExt hy
      by_cases hlt : k < xs.length
      · have hlt2 : k < ys.length := by omega
        obtain ⟨b, o, A1, c1, rfl, hb, hc, hv⟩ := h1'.atV hlt
        obtain ⟨b', o', A2, c2, rfl, hb', hc', hv'⟩ := h2'.atV hlt2
        have q1 := Hxl.out xs[k] (List.getElem_mem hlt)
        have q2 := Hyl.out ys[k] (List.getElem_mem hlt2)
        by_cases he : xs[k] = ys[k]
        · have He := Lib.hid he
          have Hd := Lib.hid (show decide (xs[k] = ys[k]) = true by simp [he])
          clear he
          go_wp2
          refine wp_region_ext (by kernel_rfl) (by kernel_rfl) ?_
          repeat (go_big_quiet_step ((go_at_call 20; exact quietEb (eqRationalS_any q1 hv.ext q2 hv'.ext) Hd.out)))
          refine wpQuiet_nil ?_
          rintro _ ⟨z, rfl⟩
          go_wp2
          exact ⟨⟨k + 1, by go_num, by omega, take_snoc_eq _ _ Ht.out He.out, (by refine Chg.isExt (F := []) ?_ (refl_ext _) (by simp); repeat (with_reducible (first | exact Chg.refl _ _ | exact Nat.le_refl _ | exact Chg.ofExt (by assumption) | refine Chg.trans0 ?_ (by assumption) | refine Chg.extS ?_ _ | refine Chg.alloc ?_ _ | refine Chg.drew ?_ | refine Chg.setCellE ?_ ?_ _ | refine le_addk ?_ _ | refine le_ext ?_ | refine le_alloc ?_ _ | refine le_setC ?_ _ _ | refine le_drew ?_ | assumption | (refine Nat.le_of_lt ?_; omega) | omega)))⟩, by simp [intOf]; omega⟩
        · have He := Lib.hid he
          have Hd := Lib.hid (show decide (xs[k] = ys[k]) = false by simp [he])
          clear he
          go_wp2
          refine wp_region_ext (by kernel_rfl) (by kernel_rfl) ?_
          repeat (go_big_quiet_step ((go_at_call 20; exact quietEb (eqRationalS_any q1 hv.ext q2 hv'.ext) Hd.out)))
          refine wpQuiet_nil ?_
          rintro _ ⟨z, rfl⟩
          go_wp2
          go_ret
          exact ⟨by rw [decide_eq_false (ne_of_at hlt hlt2 He.out)]; rfl, (by refine Chg.isExt (F := []) ?_ (refl_ext _) (by simp); repeat (with_reducible (first | exact Chg.refl _ _ | exact Nat.le_refl _ | exact Chg.ofExt (by assumption) | refine Chg.trans0 ?_ (by assumption) | refine Chg.extS ?_ _ | refine Chg.alloc ?_ _ | refine Chg.drew ?_ | refine Chg.setCellE ?_ ?_ _ | refine le_addk ?_ _ | refine le_ext ?_ | refine le_alloc ?_ _ | refine le_setC ?_ _ _ | refine le_drew ?_ | assumption | (refine Nat.le_of_lt ?_; omega) | omega)))⟩
      · go_wp2
        go_ret
        exact ⟨by rw [decide_eq_true (all_eq HL.out hlt Ht.out)]; rfl, hy⟩
  · have hn : ((xs.length : Int) != (ys.length : Int)) = true := by simp; omega
    go_enter Try.func40, Try.ntmps40
    go_wp2
    go_ret
    exact ⟨by rw [decide_eq_false (by rintro rfl; exact hl rfl)]; rfl, refl_ext w⟩
theorem mkR_sum (k : Int) (xs : List (List (Int × Int))) : (mkN mkR k xs).2 = k + ((xs.map fun x => 2 * x.length).sum : Nat) := mkN_sum (fun k x => by simp [mkR]) xs k
theorem mkR_bd {k : Int} {xs : List (List (Int × Int))} (h0 : 0 ≤ k) (hs : k + ((xs.map fun x => 2 * x.length).sum : Nat) ≤ 100000000000) (i : Nat) : 0 ≤ (mkN mkR k (xs.take i)).2 ∧ (mkN mkR k (xs.take i)).2 ≤ 100000000000 := by
  rw [mkR_sum]
  have := sum_take_le (c := fun x => 2 * x.length) xs i
  omega
set_option maxHeartbeats 1000000 in
theorem markRationalSS_any {v : Value} {xs : List (List (Int × Int))} {F : List Nat} {k0 : Int} {w : World} (hx : xs.length ≤ 1000000000) (hxl : ∀ x ∈ xs, x.length ≤ 1000000000) (hS : SV 28 1 (sSl 25 2 sR) w v xs F) (hN : F.Nodup) (h0 : 0 ≤ k0) (hk0 : k0 + ((xs.map fun x => 2 * x.length).sum : Nat) ≤ 100000000000) :
    Calls Try.prog 41 #[v, .int .i64 k0] w fun e w' => e = .returned (.int .i64 (mkN mkR k0 xs).2) ∧ SV 28 1 (sSl 25 2 sR) w' v (mkN mkR k0 xs).1 F ∧ Chg F w w' := by
  have Hxl := Lib.hid hxl
  have HN := Lib.hid hN
  have HB := Lib.hid (mkR_bd h0 hk0)
  clear hxl hN hk0
  obtain ⟨A, cap, rfl, _, _⟩ := hS.form
  go_enter Try.func41, Try.ntmps41
  go_wp2
  go_loopw [1, 5] (fun m i wr => ∃ k : Nat, i = .int .i64 k ∧ m = .int .i64 (mkN mkR k0 (xs.take k)).2 ∧ k ≤ xs.length ∧ SV 28 1 (sSl 25 2 sR) wr (.slice A xs.length cap) ((mkN mkR k0 (xs.take k)).1 ++ xs.drop k) F ∧ Chg F w wr) (fun _ i _ => xs.length - (intOf i).toNat)
  case atStart => exact ⟨0, rfl, by simp [mkN], by omega, by simpa [mkN] using hS, Chg.refl F w⟩
  case round =>
    obtain ⟨k, rfl, rfl, hk, hSk, hC⟩ := hrel
    have hlen : ((mkN mkR k0 (xs.take k)).1 ++ xs.drop k).length = xs.length := by simp; omega
    by_cases hlt : k < xs.length
    · obtain ⟨g, cap', c, Fk, hv, hg, hgF, hgk, hsub, hNk, hcl, hcell, hfz, hE, hup, _⟩ := hSk.at HN.out (k := k) (by omega)
      rw [hlen] at hv
      injection hv with hA _ hc
      subst hA hc
      obtain ⟨_, rfl, hS2⟩ := hE
      rw [mk_get hlt] at hS2
      have hc0 := hcell 0 (by simp)
      simp only [Nat.mul_one, Nat.add_zero, List.getElem_cons_zero] at hc0
      have Hup := Lib.hid hup
      have Hsub := Lib.hid hsub
      have hle := Hxl.out xs[k] (List.getElem_mem hlt)
      obtain ⟨b1, b2⟩ := HB.out k
      obtain ⟨m, hm⟩ : ∃ m, (mkN mkR k0 (xs.take k)).2 = m := ⟨_, rfl⟩
      have HM := Lib.hid hm
      rw [hm] at b1 b2 ⊢
      have HL := Lib.hid hlen
      clear hcell hup hsub hcl hS hm hlen hfz
      go_wp2_with (go_at_call 24; refine (markRationalS_any hle hS2 b1 b2).mono ?_; rintro e w2 ⟨rfl, hS3, hC3⟩)
      have h3 := Hup.out w2 _ ⟨_, rfl, hS3⟩ hC3
      have e3 := mk_set (mk := mkR) (k := k0) hlt
      rw [HM.out] at e3
      have e4 : (mkN mkR k0 (xs.take (k + 1))).2 = m + 2 * xs[k].length := by rw [mkN_take hlt, HM.out]; rfl
      exact ⟨⟨k + 1, by go_num, by rw [e4], by omega, by rw [← e3]; exact h3, hC.trans hC3 (fun x hx => .inl (Hsub.out x hx))⟩, by simp [intOf]; omega⟩
    · go_wp2
      go_ret
      have e : k = xs.length := by omega
      subst e
      rw [List.take_length] at hSk ⊢
      exact ⟨rfl, by rwa [List.drop_length, List.append_nil] at hSk, hC⟩
set_option maxHeartbeats 1000000 in
theorem heldRationalSS_any {A : Option Addr} {c n : Nat} {xs : List (List (Int × Int))} {k0 : Int} {w : World} (hn : xs.length = n) (hx : n ≤ 1000000000) (hxl : ∀ x ∈ xs, x.length ≤ 1000000000) (h1 : RRR w A (mkN mkR k0 xs).1) (h0 : 0 ≤ k0) (hk0 : k0 + ((xs.map fun x => 2 * x.length).sum : Nat) ≤ 100000000000) :
    Calls Try.prog 42 #[.slice A n c, .int .i64 k0] w fun e w' => e = .returned (.int .i64 (mkN mkR k0 xs).2) ∧ ∃ y, w' = ext w y := by
  subst hn
  have Hxl := Lib.hid hxl
  have HB := Lib.hid (mkR_bd h0 hk0)
  clear hxl hk0
  go_enter Try.func42, Try.ntmps42
  go_wp2
  go_loopw [1, 5] (fun m i wr => ∃ k : Nat, i = .int .i64 k ∧ m = .int .i64 (mkN mkR k0 (xs.take k)).2 ∧ k ≤ xs.length ∧ ∃ y, wr = ext w y) (fun _ i _ => xs.length - (intOf i).toNat)
  case atStart => exact ⟨0, rfl, by simp [mkN], by omega, refl_ext w⟩
  case round =>
    obtain ⟨k, rfl, rfl, hk, hy⟩ := hrel
    by_cases hlt : k < xs.length
    · obtain ⟨b, o, A2, c2, rfl, hb, hc, hv⟩ := (h1.toExt hy).atV (k := k) (by simpa using hlt)
      rw [mkN_at hlt] at hc hv
      have hle := Hxl.out xs[k] (List.getElem_mem hlt)
      obtain ⟨b1, b2⟩ := HB.out k
      obtain ⟨b3, _⟩ := HB.out (k + 1)
      rw [mkN_take hlt] at b3
      obtain ⟨m, hm⟩ : ∃ m, (mkN mkR k0 (xs.take k)).2 = m := ⟨_, rfl⟩
      have HM := Lib.hid hm
      rw [hm] at b1 b2 b3 hc hv ⊢
      have e5 : (mkR m xs[k]).1.length = xs[k].length := by simp [mkR]
      rw [e5] at hc
      have b4 : 0 ≤ m + 2 * xs[k].length := b3
      clear hm e5 b3
      go_wp2_with (go_at_call 45; refine (heldRationalS_any hle hv b1 b2).mono ?_; rintro e w2 ⟨rfl, hx2⟩)
      have e4 : (mkN mkR k0 (xs.take (k + 1))).2 = m + 2 * xs[k].length := by rw [mkN_take hlt, HM.out]; rfl
      exact ⟨⟨k + 1, by go_num, by rw [e4], by omega, (by refine Chg.isExt (F := []) ?_ (refl_ext _) (by simp); repeat (with_reducible (first | exact Chg.refl _ _ | exact Nat.le_refl _ | exact Chg.ofExt (by assumption) | refine Chg.trans0 ?_ (by assumption) | refine Chg.extS ?_ _ | refine Chg.alloc ?_ _ | refine Chg.drew ?_ | refine Chg.setCellE ?_ ?_ _ | refine le_addk ?_ _ | refine le_ext ?_ | refine le_alloc ?_ _ | refine le_setC ?_ _ _ | refine le_drew ?_ | assumption | (refine Nat.le_of_lt ?_; omega) | omega)))⟩, by simp [intOf]; omega⟩
    · go_wp2
      go_ret
      have e : k = xs.length := by omega
      subst e
      rw [List.take_length]
      exact ⟨rfl, hy⟩
end Go.Proofs.Ytnchebfemacebaa
