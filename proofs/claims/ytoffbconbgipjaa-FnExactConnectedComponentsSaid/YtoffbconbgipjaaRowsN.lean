/- The laws' helpers on rows of rows: the size, a copy, equality, marks written and looked for. -/
import Derived.Test.YtoffbconbgipjaaNest
import Derived.Test.YtoffbconbgipjaaInts
namespace Go.Proofs.Ytoffbconbgipjaa
open Go.RowKit

/-! plain laws -/
section
variable {α : Type}
def szG (f : Int → α → Int) : Int → List α → Int
  | l, [] => l
  | l, x :: xs => if f l x < 0 then -1 else szG f (f l x) xs
def szN (f : Int → α → Int) (left : Int) (xs : List α) : Int := if left - xs.length < 0 then -1 else szG f (left - xs.length) xs
theorem szG_step {f : Int → α → Int} {l : Int} {xs : List α} {k : Nat} (h : k < xs.length) (h1 : 0 ≤ f l xs[k]) : szG f l (xs.drop k) = szG f (f l xs[k]) (xs.drop (k + 1)) := by
  rw [List.drop_eq_getElem_cons h, szG, if_neg (by omega)]
theorem szG_stop {f : Int → α → Int} {l : Int} {xs : List α} {k : Nat} (h : k < xs.length) (h1 : f l xs[k] < 0) : szG f l (xs.drop k) = -1 := by
  rw [List.drop_eq_getElem_cons h, szG, if_pos h1]
theorem szG_end {f : Int → α → Int} {l : Int} {xs : List α} {k : Nat} (h : ¬ k < xs.length) : szG f l (xs.drop k) = l := by
  rw [List.drop_eq_nil_of_le (by omega), szG]
theorem szG_le {f : Int → α → Int} (hf : ∀ l x, 0 ≤ f l x → f l x ≤ l) : ∀ (xs : List α) (l : Int), 0 ≤ szG f l xs → szG f l xs ≤ l
  | [], l, _ => Int.le_refl l
  | x :: xs, l, h => by
    rw [szG] at h ⊢
    split at h
    · omega
    · rename_i h1
      rw [if_neg h1]
      exact Int.le_trans (szG_le hf xs _ h) (hf l x (by omega))
theorem szG_each {f : Int → α → Int} {c : α → Nat} (hf : ∀ l x, 0 ≤ f l x → f l x ≤ l - c x) : ∀ (xs : List α) (l : Int), 0 ≤ szG f l xs → szG f l xs + ((xs.map c).sum : Nat) ≤ l
  | [], l, _ => by simp [szG]
  | x :: xs, l, h => by
    rw [szG] at h ⊢
    split at h
    · omega
    · rename_i h1
      rw [if_neg h1]
      have h2 := szG_each hf xs _ h
      have h3 := hf l x (by omega)
      rw [List.map_cons, List.sum_cons]
      omega
theorem szN_le {f : Int → α → Int} (hf : ∀ l x, 0 ≤ f l x → f l x ≤ l) {left : Int} {xs : List α} (h : 0 ≤ szN f left xs) : szN f left xs ≤ left := by
  unfold szN at h ⊢
  split at h
  · omega
  · rename_i h1
    rw [if_neg h1]
    have := szG_le hf xs _ h
    omega
theorem szN_small {f : Int → α → Int} {c : α → Nat} (hf : ∀ l x, 0 ≤ f l x → f l x ≤ l - c x) {left : Int} {xs : List α} (h : 0 ≤ szN f left xs) : (xs.length : Int) + ((xs.map c).sum : Nat) ≤ left := by
  unfold szN at h
  split at h
  · omega
  · have := szG_each hf xs _ h
    omega
theorem sum_each {c : α → Nat} : ∀ {xs : List α} {x : α}, x ∈ xs → c x ≤ (xs.map c).sum
  | y :: xs, x, h => by
    rw [List.map_cons, List.sum_cons]
    rcases List.mem_cons.1 h with e | e
    · subst e; omega
    · have := sum_each (c := c) e
      omega
/-- marks written into a row, element by element -/
def mkN (mk : Int → α → α × Int) : Int → List α → List α × Int
  | k, [] => ([], k)
  | k, x :: xs => ((mk k x).1 :: (mkN mk (mk k x).2 xs).1, (mkN mk (mk k x).2 xs).2)
@[simp] theorem mkN_length (mk : Int → α → α × Int) : ∀ (xs : List α) (k : Int), (mkN mk k xs).1.length = xs.length
  | [], _ => rfl
  | x :: xs, k => by simp [mkN, mkN_length mk xs]
theorem mkN_append (mk : Int → α → α × Int) : ∀ (xs ys : List α) (k : Int), mkN mk k (xs ++ ys) = ((mkN mk k xs).1 ++ (mkN mk (mkN mk k xs).2 ys).1, (mkN mk (mkN mk k xs).2 ys).2)
  | [], ys, k => rfl
  | x :: xs, ys, k => by simp [mkN, mkN_append mk xs]
theorem mkN_take {mk : Int → α → α × Int} {k : Int} {xs : List α} {i : Nat} (h : i < xs.length) : mkN mk k (xs.take (i + 1)) = ((mkN mk k (xs.take i)).1 ++ [(mk (mkN mk k (xs.take i)).2 xs[i]).1], (mk (mkN mk k (xs.take i)).2 xs[i]).2) := by
  rw [List.take_succ_eq_append_getElem h, mkN_append]
  rfl
theorem mkN_at {mk : Int → α → α × Int} {k : Int} {xs : List α} {i : Nat} (h : i < xs.length) : (mkN mk k xs).1[i]'(by simpa using h) = (mk (mkN mk k (xs.take i)).2 xs[i]).1 := by
  have e : xs = xs.take i ++ (xs[i] :: xs.drop (i + 1)) := by rw [← List.drop_eq_getElem_cons h, List.take_append_drop]
  have e2 : (mkN mk k xs).1[i]? = (mkN mk k (xs.take i ++ (xs[i] :: xs.drop (i + 1)))).1[i]? := by rw [← e]
  rw [mkN_append] at e2
  simp only [mkN] at e2
  rw [List.getElem?_append_right (by simp; omega)] at e2
  rw [List.getElem?_eq_getElem (by simpa using h)] at e2
  simp at e2
  have hz : i - min i xs.length = 0 := by omega
  rw [hz] at e2
  simpa using e2
theorem mkN_sum {mk : Int → α → α × Int} {c : α → Nat} (hm : ∀ k x, (mk k x).2 = k + c x) : ∀ (xs : List α) (k : Int), (mkN mk k xs).2 = k + ((xs.map c).sum : Nat)
  | [], k => by simp [mkN]
  | x :: xs, k => by
    rw [mkN]
    simp only
    rw [mkN_sum hm xs, hm, List.map_cons, List.sum_cons]
    omega
theorem sum_take_le {c : α → Nat} (xs : List α) (i : Nat) : ((xs.take i).map c).sum ≤ (xs.map c).sum := by
  conv => rhs; rw [← List.take_append_drop i xs]
  rw [List.map_append, List.sum_append]
  omega
theorem mk_set {mk : Int → α → α × Int} {k : Int} {xs : List α} {i : Nat} (h : i < xs.length) : ((mkN mk k (xs.take i)).1 ++ xs.drop i).set i (mk (mkN mk k (xs.take i)).2 xs[i]).1 = (mkN mk k (xs.take (i + 1))).1 ++ xs.drop (i + 1) := by
  rw [mkN_take h, List.set_append_right _ _ (by simp; omega), show i - (mkN mk k (xs.take i)).1.length = 0 by simp; omega, List.drop_eq_getElem_cons h, List.set_cons_zero]
  simp
theorem mk_get {mk : Int → α → α × Int} {k : Int} {xs : List α} {i : Nat} (h : i < xs.length) (h' : i < ((mkN mk k (xs.take i)).1 ++ xs.drop i).length) : ((mkN mk k (xs.take i)).1 ++ xs.drop i)[i] = xs[i] := by
  rw [List.getElem_append_right (by simp; omega)]
  simp [show i - min i xs.length = 0 by omega]
theorem nodup_more {F G : List Nat} {n : Nat} (h1 : F.Nodup) (h2 : G.Nodup) (h3 : ∀ b ∈ F, b < n) (h4 : ∀ b ∈ G, n ≤ b) : (F ++ G).Nodup :=
  List.nodup_append.2 ⟨h1, h2, fun a ha b hb e => by have := h3 a ha; have := h4 b hb; omega⟩
end
def szI (l : Int) (x : List Int) : Int := szL l x.length
def szR (l : Int) (x : List (Int × Int)) : Int := szL l x.length
theorem szL_sub {l : Int} {n : Nat} (h : 0 ≤ szL l n) : szL l n ≤ l - n := by
  unfold szL at h ⊢
  split at h
  · omega
  · rename_i h1; rw [if_neg h1]; omega
theorem szI_sub (l : Int) (x : List Int) (h : 0 ≤ szI l x) : szI l x ≤ l - x.length := szL_sub h
theorem szR_sub (l : Int) (x : List (Int × Int)) (h : 0 ≤ szR l x) : szR l x ≤ l - x.length := szL_sub h
def mkI (k : Int) (x : List Int) : List Int × Int := (marks k x.length, k + x.length)

set_option maxHeartbeats 1000000 in
theorem eqIntSS_any {A A' : Option Addr} {c c' : Nat} {xs ys : List (List Int)} {w : World} (hx : xs.length ≤ 1000000000) (h1 : RII w A xs) (hxl : ∀ x ∈ xs, x.length ≤ 1000000000) (hy : ys.length ≤ 1000000000) (h2 : RII w A' ys) (hyl : ∀ x ∈ ys, x.length ≤ 1000000000) :
    Calls Try.prog 49 #[.slice A xs.length c, .slice A' ys.length c'] w fun e w' => e = .returned (.bool (decide (xs = ys))) ∧ ∃ y, w' = ext w y := by
  have Hxl := Lib.hid hxl
  have Hyl := Lib.hid hyl
  clear hxl hyl
  by_cases hl : xs.length = ys.length
  · have hn : ((xs.length : Int) != (ys.length : Int)) = false := by simp [hl]
    have hl2 : ys.length ≤ xs.length := by omega
    have hl3 : xs.length ≤ ys.length := by omega
    have HL := Lib.hid hl
    clear hl
    go_enter Try.func49, Try.ntmps49
    go_wp2
    go_loopw [5] (fun i wr => ∃ k : Nat, i = .int .i64 k ∧ k ≤ xs.length ∧ xs.take k = ys.take k ∧ ∃ y, wr = ext w y) (fun i _ => xs.length - (intOf i).toNat)
    case atStart => exact ⟨0, rfl, by omega, by simp, refl_ext w⟩
    case round =>
      obtain ⟨k, rfl, hk, ht, hy⟩ := hrel
      have Ht := Lib.hid ht
      clear ht
      have h1' := h1.toExt hy
      have h2' := h2.toExt hy
      by_cases hlt : k < xs.length
      · have hlt2 : k < ys.length := by omega
        obtain ⟨b, o, A1, c1, rfl, hb, hc, hv⟩ := h1'.atV hlt
        obtain ⟨b', o', A2, c2, rfl, hb', hc', hv'⟩ := h2'.atV hlt2
        have q1 := Hxl.out xs[k] (List.getElem_mem hlt)
        have q2 := Hyl.out ys[k] (List.getElem_mem hlt2)
        by_cases he : xs[k] = ys[k]
        · have He := Lib.hid he
          have Hd := Lib.hid (show decide (xs[k] = ys[k]) = true by simp [he])
          clear he
          go_wp2
          refine wp_region_ext (by kernel_rfl) (by kernel_rfl) ?_
          repeat (go_big_quiet_step ((go_at_call 17; exact quietEb (eqIntS_any q1 hv.ext q2 hv'.ext) Hd.out)))
          refine wpQuiet_nil ?_
          rintro _ ⟨z, rfl⟩
          go_wp2
          exact ⟨⟨k + 1, by go_num, by omega, take_snoc_eq _ _ Ht.out He.out, (by refine Chg.isExt (F := []) ?_ (refl_ext _) (by simp); repeat (with_reducible (first | exact Chg.refl _ _ | exact Nat.le_refl _ | exact Chg.ofExt (by assumption) | refine Chg.trans0 ?_ (by assumption) | refine Chg.extS ?_ _ | refine Chg.alloc ?_ _ | refine Chg.drew ?_ | refine Chg.setCellE ?_ ?_ _ | refine le_addk ?_ _ | refine le_ext ?_ | refine le_alloc ?_ _ | refine le_setC ?_ _ _ | refine le_drew ?_ | assumption | (refine Nat.le_of_lt ?_; omega) | omega)))⟩, by simp [intOf]; omega⟩
        · have He := Lib.hid he
          have Hd := Lib.hid (show decide (xs[k] = ys[k]) = false by simp [he])
          clear he
          go_wp2
          refine wp_region_ext (by kernel_rfl) (by kernel_rfl) ?_
          repeat (go_big_quiet_step ((go_at_call 17; exact quietEb (eqIntS_any q1 hv.ext q2 hv'.ext) Hd.out)))
          refine wpQuiet_nil ?_
          rintro _ ⟨z, rfl⟩
          go_wp2
          go_ret
          exact ⟨by rw [decide_eq_false (ne_of_at hlt hlt2 He.out)]; rfl, (by refine Chg.isExt (F := []) ?_ (refl_ext _) (by simp); repeat (with_reducible (first | exact Chg.refl _ _ | exact Nat.le_refl _ | exact Chg.ofExt (by assumption) | refine Chg.trans0 ?_ (by assumption) | refine Chg.extS ?_ _ | refine Chg.alloc ?_ _ | refine Chg.drew ?_ | refine Chg.setCellE ?_ ?_ _ | refine le_addk ?_ _ | refine le_ext ?_ | refine le_alloc ?_ _ | refine le_setC ?_ _ _ | refine le_drew ?_ | assumption | (refine Nat.le_of_lt ?_; omega) | omega)))⟩
      · go_wp2
        go_ret
        exact ⟨by rw [decide_eq_true (all_eq HL.out hlt Ht.out)]; rfl, hy⟩
  · have hn : ((xs.length : Int) != (ys.length : Int)) = true := by simp; omega
    go_enter Try.func49, Try.ntmps49
    go_wp2
    go_ret
    exact ⟨by rw [decide_eq_false (by rintro rfl; exact hl rfl)]; rfl, refl_ext w⟩
theorem mkI_sum (k : Int) (xs : List (List Int)) : (mkN mkI k xs).2 = k + ((xs.map fun x => x.length).sum : Nat) := mkN_sum (fun k x => by simp [mkI]) xs k
theorem mkI_bd {k : Int} {xs : List (List Int)} (h0 : 0 ≤ k) (hs : k + ((xs.map fun x => x.length).sum : Nat) ≤ 100000000000) (i : Nat) : 0 ≤ (mkN mkI k (xs.take i)).2 ∧ (mkN mkI k (xs.take i)).2 ≤ 100000000000 := by
  rw [mkI_sum]
  have := sum_take_le (c := fun x => x.length) xs i
  omega
set_option maxHeartbeats 1000000 in
theorem markIntSS_any {v : Value} {xs : List (List Int)} {F : List Nat} {k0 : Int} {w : World} (hx : xs.length ≤ 1000000000) (hxl : ∀ x ∈ xs, x.length ≤ 1000000000) (hS : SV 22 1 (sSl 3 1 sI) w v xs F) (hN : F.Nodup) (h0 : 0 ≤ k0) (hk0 : k0 + ((xs.map fun x => x.length).sum : Nat) ≤ 100000000000) :
    Calls Try.prog 50 #[v, .int .i64 k0] w fun e w' => e = .returned (.int .i64 (mkN mkI k0 xs).2) ∧ SV 22 1 (sSl 3 1 sI) w' v (mkN mkI k0 xs).1 F ∧ Chg F w w' := by
  have Hxl := Lib.hid hxl
  have HN := Lib.hid hN
  have HB := Lib.hid (mkI_bd h0 hk0)
  clear hxl hN hk0
  obtain ⟨A, cap, rfl, _, _⟩ := hS.form
  go_enter Try.func50, Try.ntmps50
  go_wp2
  go_loopw [1, 5] (fun m i wr => ∃ k : Nat, i = .int .i64 k ∧ m = .int .i64 (mkN mkI k0 (xs.take k)).2 ∧ k ≤ xs.length ∧ SV 22 1 (sSl 3 1 sI) wr (.slice A xs.length cap) ((mkN mkI k0 (xs.take k)).1 ++ xs.drop k) F ∧ Chg F w wr) (fun _ i _ => xs.length - (intOf i).toNat)
  case atStart => exact ⟨0, rfl, by simp [mkN], by omega, by simpa [mkN] using hS, Chg.refl F w⟩
  case round =>
    obtain ⟨k, rfl, rfl, hk, hSk, hC⟩ := hrel
    have hlen : ((mkN mkI k0 (xs.take k)).1 ++ xs.drop k).length = xs.length := by simp; omega
    by_cases hlt : k < xs.length
    · obtain ⟨g, cap', c, Fk, hv, hg, hgF, hgk, hsub, hNk, hcl, hcell, hfz, hE, hup, _⟩ := hSk.at HN.out (k := k) (by omega)
      rw [hlen] at hv
      injection hv with hA _ hc
      subst hA hc
      obtain ⟨_, rfl, hS2⟩ := hE
      rw [mk_get hlt] at hS2
      have hc0 := hcell 0 (by simp)
      simp only [Nat.mul_one, Nat.add_zero, List.getElem_cons_zero] at hc0
      have Hup := Lib.hid hup
      have Hsub := Lib.hid hsub
      have hle := Hxl.out xs[k] (List.getElem_mem hlt)
      obtain ⟨b1, b2⟩ := HB.out k
      obtain ⟨m, hm⟩ : ∃ m, (mkN mkI k0 (xs.take k)).2 = m := ⟨_, rfl⟩
      have HM := Lib.hid hm
      rw [hm] at b1 b2 ⊢
      have HL := Lib.hid hlen
      clear hcell hup hsub hcl hS hm hlen hfz
      go_wp2_with (go_at_call 20; refine (markIntS_any hle hS2 b1 b2).mono ?_; rintro e w2 ⟨rfl, hS3, hC3⟩)
      have h3 := Hup.out w2 _ ⟨_, rfl, hS3⟩ hC3
      have e3 := mk_set (mk := mkI) (k := k0) hlt
      rw [HM.out] at e3
      have e4 : (mkN mkI k0 (xs.take (k + 1))).2 = m + xs[k].length := by rw [mkN_take hlt, HM.out]; rfl
      exact ⟨⟨k + 1, by go_num, by rw [e4], by omega, by rw [← e3]; exact h3, hC.trans hC3 (fun x hx => .inl (Hsub.out x hx))⟩, by simp [intOf]; omega⟩
    · go_wp2
      go_ret
      have e : k = xs.length := by omega
      subst e
      rw [List.take_length] at hSk ⊢
      exact ⟨rfl, by rwa [List.drop_length, List.append_nil] at hSk, hC⟩
set_option maxHeartbeats 1000000 in
theorem heldIntSS_any {A : Option Addr} {c n : Nat} {xs : List (List Int)} {k0 : Int} {w : World} (hn : xs.length = n) (hx : n ≤ 1000000000) (hxl : ∀ x ∈ xs, x.length ≤ 1000000000) (h1 : RII w A (mkN mkI k0 xs).1) (h0 : 0 ≤ k0) (hk0 : k0 + ((xs.map fun x => x.length).sum : Nat) ≤ 100000000000) :
    Calls Try.prog 51 #[.slice A n c, .int .i64 k0] w fun e w' => e = .returned (.int .i64 (mkN mkI k0 xs).2) ∧ ∃ y, w' = ext w y := by
  subst hn
  have Hxl := Lib.hid hxl
  have HB := Lib.hid (mkI_bd h0 hk0)
  clear hxl hk0
  go_enter Try.func51, Try.ntmps51
  go_wp2
  go_loopw [1, 5] (fun m i wr => ∃ k : Nat, i = .int .i64 k ∧ m = .int .i64 (mkN mkI k0 (xs.take k)).2 ∧ k ≤ xs.length ∧ ∃ y, wr = ext w y) (fun _ i _ => xs.length - (intOf i).toNat)
  case atStart => exact ⟨0, rfl, by simp [mkN], by omega, refl_ext w⟩
  case round =>
    obtain ⟨k, rfl, rfl, hk, hy⟩ := hrel
    by_cases hlt : k < xs.length
    · obtain ⟨b, o, A2, c2, rfl, hb, hc, hv⟩ := (h1.toExt hy).atV (k := k) (by simpa using hlt)
      rw [mkN_at hlt] at hc hv
      have hle := Hxl.out xs[k] (List.getElem_mem hlt)
      obtain ⟨b1, b2⟩ := HB.out k
      obtain ⟨b3, _⟩ := HB.out (k + 1)
      rw [mkN_take hlt] at b3
      obtain ⟨m, hm⟩ : ∃ m, (mkN mkI k0 (xs.take k)).2 = m := ⟨_, rfl⟩
      have HM := Lib.hid hm
      rw [hm] at b1 b2 b3 hc hv ⊢
      have e5 : (mkI m xs[k]).1.length = xs[k].length := by simp [mkI]
      rw [e5] at hc
      have b4 : 0 ≤ m + xs[k].length := b3
      clear hm e5 b3
      go_wp2_with (go_at_call 21; refine (heldIntS_any hle hv b1 b2).mono ?_; rintro e w2 ⟨rfl, hx2⟩)
      have e4 : (mkN mkI k0 (xs.take (k + 1))).2 = m + xs[k].length := by rw [mkN_take hlt, HM.out]; rfl
      exact ⟨⟨k + 1, by go_num, by rw [e4], by omega, (by refine Chg.isExt (F := []) ?_ (refl_ext _) (by simp); repeat (with_reducible (first | exact Chg.refl _ _ | exact Nat.le_refl _ | exact Chg.ofExt (by assumption) | refine Chg.trans0 ?_ (by assumption) | refine Chg.extS ?_ _ | refine Chg.alloc ?_ _ | refine Chg.drew ?_ | refine Chg.setCellE ?_ ?_ _ | refine le_addk ?_ _ | refine le_ext ?_ | refine le_alloc ?_ _ | refine le_setC ?_ _ _ | refine le_drew ?_ | assumption | (refine Nat.le_of_lt ?_; omega) | omega)))⟩, by simp [intOf]; omega⟩
    · go_wp2
      go_ret
      have e : k = xs.length := by omega
      subst e
      rw [List.take_length]
      exact ⟨rfl, hy⟩

end Go.Proofs.Ytoffbconbgipjaa
