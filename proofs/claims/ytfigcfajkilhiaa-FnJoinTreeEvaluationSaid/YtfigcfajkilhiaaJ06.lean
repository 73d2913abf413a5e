/- Contracts of functions that the statement reaches. -/
import Derived.Test.YtfigcfajkilhiaaJ01
import Derived.Test.YtfigcfajkilhiaaJ04
import Derived.Test.YtfigcfajkilhiaaJ05
import Derived.Test.YtfigcfajkilhiaaJ03
namespace Go.Proofs.Ytfigcfajkilhiaa
open Go.RowKit
theorem not_mem_of {xs : List Int} {k : Nat} {n : Int} (hk : ¬ k < xs.length) (h : ∀ j (h : j < xs.length), j < k → xs[j] ≠ n) : n ∉ xs := fun hm => by
  obtain ⟨j, hj, e⟩ := List.getElem_of_mem hm
  exact h j hj (by omega) e
theorem ne_snoc {xs : List Int} {k : Nat} {n : Int} (hk : k < xs.length) (h : ∀ j (h : j < xs.length), j < k → xs[j] ≠ n) (hn : xs[k] ≠ n) : ∀ j (h : j < xs.length), j < k + 1 → xs[j] ≠ n := fun j hj hlt => by
  by_cases e : j = k
  · subst e; exact hn
  · exact h j hj (by omega)
set_option maxHeartbeats 400000 in
theorem specContains_any {s : ByteArray} {A : Option Addr} {c : Nat} {xs : List Int} {n : Int} {w : World} (hx : xs.length ≤ 1000000000) (h1 : RI w A xs) :
    Calls Try.prog 151 #[.agg #[.string s, .slice A xs.length c], .int .i64 n] w fun e w' => e = .returned (.bool (decide (n ∈ xs))) ∧ ∃ y, w' = ext w y := by
  go_enter Try.func151, Try.ntmps151
  go_wp2
  go_loop [5] (fun i => ∃ k : Nat, i = .int .i64 k ∧ k ≤ xs.length ∧ ∀ j (h : j < xs.length), j < k → xs[j] ≠ n) (fun i => xs.length - (intOf i).toNat)
  case atStart => exact ⟨0, rfl, by omega, by simp⟩
  case round =>
    obtain ⟨k, rfl, hk, hj⟩ := hrel
    have Hj := Lib.hid hj
    clear hj
    by_cases hlt : k < xs.length
    · obtain ⟨b, o, rfl, hb, hc⟩ := h1.atI hlt
      go_wp2
      · go_ret
        have e : xs[k] = n := by simpa using ‹(xs[k] == n) = true›
        exact ⟨by rw [decide_eq_true (by rw [← e]; exact List.getElem_mem hlt)]; rfl, (by refine x'z ?_; repeat (with_reducible (first | exact x'a _ _ | exact x'b _ | exact x'c (by assumption) | refine x'd ?_ (by assumption) | refine x'e ?_ _ | refine x'f ?_ _ | refine x'g ?_ | refine x'h ?_ ?_ _ | refine x'i ?_ _ | refine x'j ?_ | refine x'k ?_ _ | refine x'l ?_ _ _ | refine x'm ?_ | assumption | (refine x'n ?_; omega) | omega)))⟩
      · have e : xs[k] ≠ n := by simpa using ‹(xs[k] == n) = false›
        exact ⟨⟨k + 1, by go_num, by omega, ne_snoc hlt Hj.out e⟩, by simp [intOf]; omega⟩
    · go_wp2
      go_ret
      exact ⟨by rw [decide_eq_false (not_mem_of hlt Hj.out)]; rfl, (by refine x'z ?_; repeat (with_reducible (first | exact x'a _ _ | exact x'b _ | exact x'c (by assumption) | refine x'd ?_ (by assumption) | refine x'e ?_ _ | refine x'f ?_ _ | refine x'g ?_ | refine x'h ?_ ?_ _ | refine x'i ?_ _ | refine x'j ?_ | refine x'k ?_ _ | refine x'l ?_ _ _ | refine x'm ?_ | assumption | (refine x'n ?_; omega) | omega)))⟩
def iof (k : Nat) (n : Int) : List Int → Int
  | [] => -1
  | x :: xs => if x = n then k else iof (k + 1) n xs
theorem iof_step {k j : Nat} {n : Int} {xs : List Int} (h : j < xs.length) : iof k n (xs.drop j) = if xs[j] = n then (k : Int) else iof (k + 1) n (xs.drop (j + 1)) := by
  rw [List.drop_eq_getElem_cons h]; rfl
theorem iof_nonneg {n : Int} : ∀ (k : Nat) (xs : List Int), 0 ≤ iof k n xs ↔ n ∈ xs
  | _, [] => by simp [iof]
  | k, x :: xs => by
    unfold iof
    split
    · rename_i h; subst h; simp
    · rename_i h
      rw [iof_nonneg (k + 1) xs, List.mem_cons]
      constructor
      · exact .inr
      · rintro (e | e)
        · exact absurd e.symm h
        · exact e
set_option maxHeartbeats 400000 in
theorem indexOf_any {A : Option Addr} {c : Nat} {xs : List Int} {n : Int} {w : World} (hx : xs.length ≤ 1000000000) (h1 : RI w A xs) :
    Calls Try.prog 149 #[.slice A xs.length c, .int .i64 n] w fun e w' => e = .returned (.int .i64 (iof 0 n xs)) ∧ ∃ y, w' = ext w y := by
  go_enter Try.func149, Try.ntmps149
  go_wp2
  go_loop [9] (fun i => ∃ k : Nat, i = .int .i64 k ∧ k ≤ xs.length ∧ iof k n (xs.drop k) = iof 0 n xs) (fun i => xs.length - (intOf i).toNat)
  case atStart => exact ⟨0, rfl, by omega, by simp⟩
  case round =>
    obtain ⟨k, rfl, hk, hj⟩ := hrel
    have Hj := Lib.hid hj
    clear hj
    by_cases hlt : k < xs.length
    · obtain ⟨b, o, rfl, hb, hc⟩ := h1.atI hlt
      go_wp2
      · go_ret
        have e := Hj.out
        rw [iof_step hlt, if_pos (by simpa using ‹(xs[k] == n) = true›)] at e
        exact ⟨by rw [← e]; rfl, refl_ext w⟩
      · have e := Hj.out
        rw [iof_step hlt, if_neg (by simpa using ‹(xs[k] == n) = false›)] at e
        exact ⟨⟨k + 1, by go_num, by omega, e⟩, by simp [intOf]; omega⟩
    · go_wp2
      go_ret
      have e := Hj.out
      rw [List.drop_eq_nil_of_le (by omega)] at e
      exact ⟨by rw [← e]; rfl, refl_ext w⟩
theorem hasInt_any {A : Option Addr} {c : Nat} {xs : List Int} {n : Int} {w : World} (hx : xs.length ≤ 1000000000) (h1 : RI w A xs) :
    Calls Try.prog 153 #[.slice A xs.length c, .int .i64 n] w fun e w' => e = .returned (.bool (decide (n ∈ xs))) ∧ ∃ y, w' = ext w y := by
  go_enter Try.func153, Try.ntmps153
  go_wp2_with (go_at_call 149; refine (indexOf_any hx h1).mono ?_; rintro e w' ⟨rfl, y, rfl⟩)
  go_ret
  exact ⟨by simp only [← iof_nonneg 0 xs]; rfl, y, rfl⟩
theorem Contains_any {s : ByteArray} {A : Option Addr} {c : Nat} {xs : List Int} {n : Int} {w : World} (hx : xs.length ≤ 1000000000) (h1 : RI w A xs) :
    Calls Try.prog 72 #[.agg #[.string s, .slice A xs.length c], .int .i64 n] w fun e w' => e = .returned (.bool (decide (n ∈ xs))) ∧ ∃ y, w' = ext w y := by
  go_enter Try.func72, Try.ntmps72
  go_wp2_with (go_at_call 153; refine (hasInt_any hx (h1.toExt (by refine x'z ?_; repeat (with_reducible (first | exact x'a _ _ | exact x'b _ | exact x'c (by assumption) | refine x'd ?_ (by assumption) | refine x'e ?_ _ | refine x'f ?_ _ | refine x'g ?_ | refine x'h ?_ ?_ _ | refine x'i ?_ _ | refine x'j ?_ | refine x'k ?_ _ | refine x'l ?_ _ _ | refine x'm ?_ | assumption | (refine x'n ?_; omega) | omega))))).mono ?_; rintro e w' ⟨rfl, y, rfl⟩)
  go_ret
  exact ⟨rfl, (by refine x'z ?_; repeat (with_reducible (first | exact x'a _ _ | exact x'b _ | exact x'c (by assumption) | refine x'd ?_ (by assumption) | refine x'e ?_ _ | refine x'f ?_ _ | refine x'g ?_ | refine x'h ?_ ?_ _ | refine x'i ?_ _ | refine x'j ?_ | refine x'k ?_ _ | refine x'l ?_ _ _ | refine x'm ?_ | assumption | (refine x'n ?_; omega) | omega)))⟩
def avars : Nat → Nat → List Int → List Int
  | 0, _, _ => []
  | f + 1, k, xs => if (k : Int) ∈ xs then (k : Int) :: avars f (k + 1) xs else avars f (k + 1) xs
theorem avars_step {k : Nat} {xs : List Int} (h : k < 5) : avars (5 - k) k xs = if (k : Int) ∈ xs then (k : Int) :: avars (5 - (k + 1)) (k + 1) xs else avars (5 - (k + 1)) (k + 1) xs := by
  rw [show 5 - k = (5 - (k + 1)) + 1 by omega, avars]
theorem avars_length : ∀ (f k : Nat) (xs : List Int), (avars f k xs).length ≤ f
  | 0, _, _ => by simp [avars]
  | f + 1, k, xs => by
    have := avars_length f (k + 1) xs
    unfold avars
    split <;> simp <;> omega
set_option maxHeartbeats 400000 in
theorem AtomVariables_any {s : ByteArray} {A : Option Addr} {c : Nat} {xs : List Int} {w : World} (hx : xs.length ≤ 1000000000) (h1 : RI w A xs) :
    Calls Try.prog 66 #[.agg #[.string s, .slice A xs.length c]] w fun e w' => ∃ v F, e = .returned v ∧ (∃ y, w' = ext w y) ∧ SV 3 1 sI w' v (avars 5 0 xs) F ∧ ∀ b ∈ F, w.heap.size ≤ b := by
  go_enter Try.func66, Try.ntmps66
  go_wp2
  refine wp_name ?_
  intro W hW
  have xW : ∃ y, W = ext w y := by rw [hW.out]; exact (by refine x'z ?_; repeat (with_reducible (first | exact x'a _ _ | exact x'b _ | exact x'c (by assumption) | refine x'd ?_ (by assumption) | refine x'e ?_ _ | refine x'f ?_ _ | refine x'g ?_ | refine x'h ?_ ?_ _ | refine x'i ?_ _ | refine x'j ?_ | refine x'k ?_ _ | refine x'l ?_ _ _ | refine x'm ?_ | assumption | (refine x'n ?_; omega) | omega)))
  have BW0 : BoxAt W (w.heap.size) #[.string s, .slice A xs.length c] := by rw [hW.out]; refine ⟨?_, fun j => ?_, fun j => ?_⟩ <;> go_simp
  obtain ⟨lW0, bW0, fW0⟩ := BW0
  clear hW
  have h1 := h1.toExt xW
  go_loopw [3, 4] (fun v i wr => ∃ (k : Nat) (ds : List Int) (F : List Nat), i = .int .i64 k ∧ k ≤ 5 ∧ SV 3 1 sI wr v ds F ∧ (∀ b ∈ F, W.heap.size ≤ b) ∧ (∃ y, wr = ext W y) ∧ ds.length ≤ k ∧ ds ++ avars (5 - k) k xs = avars 5 0 xs) (fun _ i _ => 5 - (intOf i).toNat)
  case atStart => exact ⟨0, [], [], rfl, by omega, SV.nil, by simp, refl_ext W, by simp, by simp⟩
  case round =>
    obtain ⟨k, ds, F, rfl, hk, hS, hF, ⟨y, rfl⟩, hl, hj⟩ := hrel
    have Hj := Lib.hid hj
    have HF := Lib.hid hF
    clear hj hF
    by_cases hlt : k < 5
    · go_wp2_with (first
        | (go_at_call 72; refine (Contains_any hx h1.ext).mono ?_; rintro e w' ⟨rfl, hx1⟩; obtain ⟨y', e1⟩ := trans_ext ⟨_, rfl⟩ hx1; have hS1 := hS.toExt hx1; subst e1; clear hS hx1)
        | (at_builtin; refine wpList_appI _ rfl _ _ _ rfl tI rfl rfl rfl hS1 (by omega) (by omega) ?_; intro v' w' F' hS2 hC2 hF2))
      · have e := Hj.out
        rw [avars_step hlt, if_pos ‹(k : Int) ∈ xs›] at e
        exact ⟨⟨k + 1, ds ++ [(k : Int)], F', by go_num, by omega, hS2, newer HF.out size_ext hF2, hC2.isExt ⟨_, rfl⟩ HF.out, by simp; omega, by simpa using e⟩, by simp [intOf]; omega⟩
      · have e := Hj.out
        rw [avars_step hlt, if_neg ‹¬ (k : Int) ∈ xs›] at e
        exact ⟨⟨k + 1, ds, F, by go_num, by omega, hS1, HF.out, ⟨_, rfl⟩, by omega, e⟩, by simp [intOf]; omega⟩
    · go_wp2
      go_ret
      have e := Hj.out
      rw [show 5 - k = 0 by omega, avars, List.append_nil] at e
      exact ⟨_, F, rfl, trans_ext xW ⟨_, rfl⟩, by rw [← e]; exact hS, fun b hb => Nat.le_trans (size_of_ext xW) (HF.out b hb)⟩
set_option maxHeartbeats 400000 in
theorem specAtomVariables_any {s : ByteArray} {A : Option Addr} {c : Nat} {xs : List Int} {w : World} (hx : xs.length ≤ 1000000000) (h1 : RI w A xs) :
    Calls Try.prog 69 #[.agg #[.string s, .slice A xs.length c]] w fun e w' => ∃ v F, e = .returned v ∧ (∃ y, w' = ext w y) ∧ SV 3 1 sI w' v (avars 5 0 xs) F ∧ ∀ b ∈ F, w.heap.size ≤ b := by
  go_enter Try.func69, Try.ntmps69
  go_upto_region 1 with fail
  refine wp_name ?_
  intro W hW
  have xW : ∃ y, W = ext w y := by rw [hW.out]; exact (by refine x'z ?_; repeat (with_reducible (first | exact x'a _ _ | exact x'b _ | exact x'c (by assumption) | refine x'd ?_ (by assumption) | refine x'e ?_ _ | refine x'f ?_ _ | refine x'g ?_ | refine x'h ?_ ?_ _ | refine x'i ?_ _ | refine x'j ?_ | refine x'k ?_ _ | refine x'l ?_ _ _ | refine x'm ?_ | assumption | (refine x'n ?_; omega) | omega)))
  have BW0 : BoxAt W (w.heap.size) #[.string s, .slice A xs.length c] := by rw [hW.out]; refine ⟨?_, fun j => ?_, fun j => ?_⟩ <;> go_simp
  obtain ⟨lW0, bW0, fW0⟩ := BW0
  clear hW
  go_wp2
  have h1 := h1.toExt xW
  go_loopw [3, 4] (fun v i wr => ∃ (k : Nat) (ds : List Int) (F : List Nat), i = .int .i64 k ∧ k ≤ 5 ∧ SV 3 1 sI wr v ds F ∧ (∀ b ∈ F, W.heap.size ≤ b) ∧ (∃ y, wr = ext W y) ∧ ds.length ≤ k ∧ ds ++ avars (5 - k) k xs = avars 5 0 xs) (fun _ i _ => 5 - (intOf i).toNat)
  case atStart => exact ⟨0, [], [W.heap.size], rfl, by omega, SV.empty W, by simp, alloc_ext _ _, by simp, by simp⟩
  case round =>
    obtain ⟨k, ds, F, rfl, hk, hS, hF, ⟨y, rfl⟩, hl, hj⟩ := hrel
    have Hj := Lib.hid hj
    have HF := Lib.hid hF
    clear hj hF
    by_cases hlt : k < 5
    · go_wp2_with (first
        | (go_at_call 151; refine (specContains_any hx h1.ext).mono ?_; rintro e w' ⟨rfl, hx1⟩; obtain ⟨y', e1⟩ := trans_ext ⟨_, rfl⟩ hx1; have hS1 := hS.toExt hx1; subst e1; clear hS hx1)
        | (at_builtin; refine wpList_appI _ rfl _ _ _ rfl tI rfl rfl rfl hS1 (by omega) (by omega) ?_; intro v' w' F' hS2 hC2 hF2))
      · have e := Hj.out
        rw [avars_step hlt, if_pos ‹(k : Int) ∈ xs›] at e
        exact ⟨⟨k + 1, ds ++ [(k : Int)], F', by go_num, by omega, hS2, newer HF.out size_ext hF2, hC2.isExt ⟨_, rfl⟩ HF.out, by simp; omega, by simpa using e⟩, by simp [intOf]; omega⟩
      · have e := Hj.out
        rw [avars_step hlt, if_neg ‹¬ (k : Int) ∈ xs›] at e
        exact ⟨⟨k + 1, ds, F, by go_num, by omega, hS1, HF.out, ⟨_, rfl⟩, by omega, e⟩, by simp [intOf]; omega⟩
    · go_wp2
      go_ret
      have e := Hj.out
      rw [show 5 - k = 0 by omega, avars, List.append_nil] at e
      exact ⟨_, F, rfl, trans_ext xW ⟨_, rfl⟩, by rw [← e]; exact hS, fun b hb => Nat.le_trans (size_of_ext xW) (HF.out b hb)⟩
end Go.Proofs.Ytfigcfajkilhiaa
namespace Go.Proofs.Ytfigcfajkilhiaa
open Go.RowKit
theorem mem_avars : ∀ (f k : Nat) (xs : List Int) (n : Int), n ∈ avars f k xs ↔ (k : Int) ≤ n ∧ n < k + f ∧ n ∈ xs
  | 0, k, xs, n => by simp [avars]; omega
  | f + 1, k, xs, n => by
    have ih := mem_avars f (k + 1) xs n
    unfold avars
    split
    · rename_i h
      rw [List.mem_cons, ih]
      constructor
      · rintro (rfl | ⟨h1, h2, h3⟩)
        · exact ⟨by omega, by omega, h⟩
        · exact ⟨by omega, by omega, h3⟩
      · rintro ⟨h1, h2, h3⟩
        by_cases e : n = k
        · exact .inl e
        · exact .inr ⟨by omega, by omega, h3⟩
    · rename_i h
      rw [ih]
      constructor
      · rintro ⟨h1, h2, h3⟩
        exact ⟨by omega, by omega, h3⟩
      · rintro ⟨h1, h2, h3⟩
        refine ⟨?_, by omega, h3⟩
        have : n ≠ k := by rintro rfl; exact h h3
        omega
end Go.Proofs.Ytfigcfajkilhiaa
namespace Go.Proofs.Ytfigcfajkilhiaa
open Go.RowKit
def insK (n : Int) : List Int → Nat
  | [] => 0
  | x :: xs => if x < n then insK n xs + 1 else 0
def insS (n : Int) (l : List Int) : List Int := if (l.drop (insK n l)).head? = some n then l else l.take (insK n l) ++ [n] ++ l.drop (insK n l)
def uniL (a b : List Int) : List Int := b.foldl (fun acc n => insS n acc) a
theorem insK_step {n : Int} {l : List Int} {k : Nat} (h : k < l.length) (hx : l[k] < n) : k + insK n (l.drop k) = k + 1 + insK n (l.drop (k + 1)) := by
  rw [List.drop_eq_getElem_cons h, insK, if_pos hx]
  omega
theorem insK_hit {n : Int} {l : List Int} {k : Nat} (h : k < l.length) (hx : ¬ l[k] < n) : k + insK n (l.drop k) = k := by
  rw [List.drop_eq_getElem_cons h, insK, if_neg hx]
  omega
theorem insK_end {n : Int} {l : List Int} {k : Nat} (h : ¬ k < l.length) : k + insK n (l.drop k) = k := by
  rw [List.drop_eq_nil_of_le (by omega), insK]
  omega
theorem uniL_step {a b : List Int} {k : Nat} (h : k < b.length) : uniL a (b.take (k + 1)) = insS b[k] (uniL a (b.take k)) := by
  unfold uniL
  rw [List.take_succ_eq_append_getElem h, List.foldl_append]
  rfl
def insR (n : Int) : List Int → List Int
  | [] => [n]
  | x :: xs => if x < n then x :: insR n xs else if x = n then x :: xs else n :: x :: xs
theorem insS_eq (n : Int) : ∀ l, insS n l = insR n l
  | [] => rfl
  | x :: xs => by
    have ih := insS_eq n xs
    unfold insS at ih
    unfold insS insK insR
    by_cases h : x < n
    · rw [if_pos h, if_pos h, List.drop_succ_cons, List.take_succ_cons, ← ih]
      split <;> simp
    · rw [if_neg h, if_neg h]
      by_cases h2 : x = n
      · simp [h2]
      · simp [h2]
theorem insS_length (n : Int) (l : List Int) : (insS n l).length ≤ l.length + 1 := by
  unfold insS
  split
  · omega
  · simp only [List.length_append, List.length_take, List.length_drop, List.length_cons, List.length_nil]; omega
theorem uniL_length : ∀ (b a : List Int), (uniL a b).length ≤ a.length + b.length
  | [], a => by simp [uniL]
  | x :: b, a => by
    have h1 := uniL_length b (insS x a)
    have h2 := insS_length x a
    have e : uniL a (x :: b) = uniL (insS x a) b := rfl
    rw [e, List.length_cons]
    omega
def Asc (l : List Int) : Prop := l.Pairwise (· < ·)
theorem mem_insR {n x : Int} : ∀ {l : List Int}, x ∈ insR n l ↔ x = n ∨ x ∈ l
  | [] => by simp [insR]
  | y :: ys => by
    unfold insR
    split
    · rw [List.mem_cons, mem_insR (l := ys), List.mem_cons]
      constructor
      · rintro (h | h | h)
        · exact .inr (.inl h)
        · exact .inl h
        · exact .inr (.inr h)
      · rintro (h | h | h)
        · exact .inr (.inl h)
        · exact .inl h
        · exact .inr (.inr h)
    · split
      · rename_i h; subst h
        simp
      · simp
theorem asc_insR {n : Int} : ∀ {l : List Int}, Asc l → Asc (insR n l)
  | [], _ => by simp [insR, Asc]
  | y :: ys, h => by
    have h' := List.pairwise_cons.1 h
    unfold insR
    split
    · rename_i hy
      refine List.pairwise_cons.2 ⟨fun z hz => ?_, asc_insR h'.2⟩
      rcases mem_insR.1 hz with e | e
      · omega
      · exact h'.1 z e
    · split
      · exact h
      · refine List.pairwise_cons.2 ⟨fun z hz => ?_, h⟩
        rcases List.mem_cons.1 hz with e | e
        · omega
        · have := h'.1 z e
          omega
theorem mem_insS {n x : Int} {l : List Int} : x ∈ insS n l ↔ x = n ∨ x ∈ l := by rw [insS_eq]; exact mem_insR
theorem asc_insS {n : Int} {l : List Int} (h : Asc l) : Asc (insS n l) := by rw [insS_eq]; exact asc_insR h
theorem mem_uniL {x : Int} : ∀ {b a : List Int}, x ∈ uniL a b ↔ x ∈ a ∨ x ∈ b
  | [], a => by simp [uniL]
  | y :: b, a => by
    have e : uniL a (y :: b) = uniL (insS y a) b := rfl
    rw [e, mem_uniL, mem_insS, List.mem_cons]
    constructor
    · rintro ((h | h) | h)
      · exact .inr (.inl h)
      · exact .inl h
      · exact .inr (.inr h)
    · rintro (h | h | h)
      · exact .inl (.inr h)
      · exact .inl (.inl h)
      · exact .inr h
theorem asc_uniL : ∀ {b a : List Int}, Asc a → Asc (uniL a b)
  | [], _, h => h
  | y :: b, a, h => by
    have e : uniL a (y :: b) = uniL (insS y a) b := rfl
    rw [e]
    exact asc_uniL (asc_insS h)
theorem asc_nil : Asc [] := List.Pairwise.nil
theorem asc_ext : ∀ {a b : List Int}, Asc a → Asc b → (∀ x, x ∈ a ↔ x ∈ b) → a = b
  | [], [], _, _, _ => rfl
  | [], y :: b, _, _, h => by have := (h y).2 (by simp); simp at this
  | x :: a, [], _, _, h => by have := (h x).1 (by simp); simp at this
  | x :: a, y :: b, ha, hb, h => by
    have ha' := List.pairwise_cons.1 ha
    have hb' := List.pairwise_cons.1 hb
    have hxy : x = y := by
      have h1 := (h x).1 (by simp)
      have h2 := (h y).2 (by simp)
      rcases List.mem_cons.1 h1 with e | e
      · exact e
      · rcases List.mem_cons.1 h2 with e2 | e2
        · exact e2.symm
        · have := hb'.1 x e
          have := ha'.1 y e2
          omega
    subst hxy
    congr 1
    refine asc_ext ha'.2 hb'.2 fun z => ?_
    have hz := h z
    rw [List.mem_cons, List.mem_cons] at hz
    constructor
    · intro hm
      rcases hz.1 (.inr hm) with e | e
      · have := ha'.1 z hm; omega
      · exact e
    · intro hm
      rcases hz.2 (.inr hm) with e | e
      · have := hb'.1 z hm; omega
      · exact e
theorem asc_avars : ∀ (f k : Nat) (xs : List Int), Asc (avars f k xs)
  | 0, _, _ => asc_nil
  | f + 1, k, xs => by
    have ih := asc_avars f (k + 1) xs
    unfold avars
    split
    · refine List.pairwise_cons.2 ⟨fun z hz => ?_, ih⟩
      have := (mem_avars f (k + 1) xs z).1 hz
      omega
    · exact ih
end Go.Proofs.Ytfigcfajkilhiaa
namespace Go.Proofs.Ytfigcfajkilhiaa
open Go.RowKit
theorem iof_get {v : Int} : ∀ {k : Nat} {va : List Int}, v ∈ va → ∃ i : Nat, iof k v va = ((k + i : Nat) : Int) ∧ va[i]? = some v
  | _, [], h => by simp at h
  | k, x :: va, h => by
    rw [iof]
    split
    · rename_i e
      subst e
      exact ⟨0, by simp, by simp⟩
    · rename_i e
      rcases List.mem_cons.1 h with h | h
      · exact absurd h.symm e
      · obtain ⟨i, h1, h2⟩ := iof_get (k := k + 1) h
        exact ⟨i + 1, by rw [h1]; congr 1; omega, by simpa using h2⟩
theorem iof_nodup : ∀ {k : Nat} {va : List Int} {i : Nat} (_ : va.Nodup) (h : i < va.length), iof k va[i] va = ((k + i : Nat) : Int)
  | k, x :: va, 0, _, _ => by rw [iof]; simp
  | k, x :: va, i + 1, hn, h => by
    rw [List.nodup_cons] at hn
    rw [iof, if_neg, List.getElem_cons_succ, iof_nodup hn.2]
    · congr 1; omega
    · rintro e
      rw [List.getElem_cons_succ] at e
      exact hn.1 (e ▸ List.getElem_mem _)
def valAt (va r : List Int) (v : Int) : Int := r.getD (iof 0 v va).toNat 0
theorem valAt_map {va : List Int} {g : Int → Int} {v : Int} (h : v ∈ va) : valAt va (va.map g) v = g v := by
  obtain ⟨i, h1, h2⟩ := iof_get (k := 0) h
  unfold valAt
  rw [h1, Int.toNat_natCast, Nat.zero_add, List.getD_eq_getElem?_getD, List.getElem?_map, h2]
  rfl
theorem map_valAt {va r : List Int} (hn : va.Nodup) (hl : r.length = va.length) : va.map (valAt va r) = r := by
  apply List.ext_getElem
  · simp [hl]
  · intro i h1 h2
    rw [List.getElem_map]
    unfold valAt
    rw [iof_nodup hn (by simpa using h1), Int.toNat_natCast, Nat.zero_add, getDl _ _ h2]
def agreeB (va r vb s : List Int) : Bool := va.all fun v => !decide (v ∈ vb) || decide (valAt va r v = valAt vb s v)
theorem agreeB_iff {va r vb s : List Int} : agreeB va r vb s = true ↔ ∀ v ∈ va, v ∈ vb → valAt va r v = valAt vb s v := by
  unfold agreeB
  simp only [List.all_eq_true, Bool.or_eq_true, Bool.not_eq_true', decide_eq_false_iff_not, decide_eq_true_eq]
  constructor
  · intro h v h1 h2
    rcases h v h1 with h | h
    · exact absurd h2 h
    · exact h
  · intro h v h1
    by_cases h2 : v ∈ vb
    · exact .inr (h v h1 h2)
    · exact .inl h2
def glueR (un va r vb s : List Int) : List Int := un.map fun v => if v ∈ va then valAt va r v else valAt vb s v
def joinL (un va : List Int) (ra : List (List Int)) (vb : List Int) (rb : List (List Int)) : List (List Int) :=
  ra.flatMap fun r => (rb.filter fun s => agreeB va r vb s).map fun s => glueR un va r vb s
def semiL (va : List Int) (ra : List (List Int)) (vb : List Int) (rb : List (List Int)) : List (List Int) := ra.filter fun r => rb.any fun s => agreeB va r vb s
theorem mem_semiL {va vb r : List Int} {ra rb : List (List Int)} (ha : va.Nodup) (hb : vb.Nodup) (hra : ∀ r ∈ ra, r.length = va.length) (hrb : ∀ s ∈ rb, s.length = vb.length) :
    r ∈ semiL va ra vb rb ↔ r ∈ ra ∧ ∃ g : Int → Int, va.map g = r ∧ vb.map g ∈ rb := by
  unfold semiL
  rw [List.mem_filter, List.any_eq_true]
  refine and_congr_right fun hr => ?_
  constructor
  · rintro ⟨s, hs, hag⟩
    rw [agreeB_iff] at hag
    refine ⟨fun v => if v ∈ va then valAt va r v else valAt vb s v, ?_, ?_⟩
    · rw [List.map_congr_left (g := valAt va r) (fun v hv => by rw [if_pos hv]), map_valAt ha (hra r hr)]
    · rw [List.map_congr_left (g := valAt vb s) (fun v hv => ?_), map_valAt hb (hrb s hs)]
      · exact hs
      · split
        · rename_i h; exact hag v h hv
        · rfl
  · rintro ⟨g, rfl, h2⟩
    refine ⟨_, h2, agreeB_iff.2 fun v h3 h4 => ?_⟩
    rw [valAt_map h3, valAt_map h4]
theorem mem_joinL {un va vb t : List Int} {ra rb : List (List Int)} (ha : va.Nodup) (hb : vb.Nodup) (hra : ∀ r ∈ ra, r.length = va.length) (hrb : ∀ s ∈ rb, s.length = vb.length) (hu : ∀ v ∈ un, v ∈ va ∨ v ∈ vb) :
    t ∈ joinL un va ra vb rb ↔ ∃ g : Int → Int, un.map g = t ∧ va.map g ∈ ra ∧ vb.map g ∈ rb := by
  unfold joinL
  simp only [List.mem_flatMap, List.mem_map, List.mem_filter]
  constructor
  · rintro ⟨r, hr, s, ⟨hs, hag⟩, rfl⟩
    rw [agreeB_iff] at hag
    refine ⟨fun v => if v ∈ va then valAt va r v else valAt vb s v, rfl, ?_, ?_⟩
    · rw [List.map_congr_left (g := valAt va r) (fun v hv => by rw [if_pos hv]), map_valAt ha (hra r hr)]
      exact hr
    · rw [List.map_congr_left (g := valAt vb s) (fun v hv => ?_), map_valAt hb (hrb s hs)]
      · exact hs
      · split
        · rename_i h; exact hag v h hv
        · rfl
  · rintro ⟨g, rfl, h1, h2⟩
    refine ⟨_, h1, _, ⟨h2, agreeB_iff.2 fun v h3 h4 => by rw [valAt_map h3, valAt_map h4]⟩, ?_⟩
    unfold glueR
    refine List.map_congr_left fun v hv => ?_
    split
    · rename_i h; exact valAt_map h
    · rename_i h
      rcases hu v hv with k | k
      · exact absurd k h
      · exact valAt_map k
theorem glue_left {un va r vb s : List Int} (ha : va.Nodup) (hr : r.length = va.length) (hu : ∀ v ∈ va, v ∈ un) : va.map (valAt un (glueR un va r vb s)) = r := by
  unfold glueR
  rw [List.map_congr_left (g := valAt va r) (fun v hv => by rw [valAt_map (hu v hv), if_pos hv]), map_valAt ha hr]
theorem glue_right {un va r vb s : List Int} (hb : vb.Nodup) (hs : s.length = vb.length) (hu : ∀ v ∈ vb, v ∈ un) (hag : agreeB va r vb s = true) : vb.map (valAt un (glueR un va r vb s)) = s := by
  unfold glueR
  rw [List.map_congr_left (g := valAt vb s) (fun v hv => ?_), map_valAt hb hs]
  rw [valAt_map (hu v hv)]
  split
  · rename_i h; exact agreeB_iff.1 hag v h hv
  · rfl
theorem joinL_nodup {un va vb : List Int} {ra rb : List (List Int)} (ha : va.Nodup) (hb : vb.Nodup) (hra : ∀ r ∈ ra, r.length = va.length) (hrb : ∀ s ∈ rb, s.length = vb.length) (hua : ∀ v ∈ va, v ∈ un) (hub : ∀ v ∈ vb, v ∈ un)
    (na : ra.Nodup) (nb : rb.Nodup) : (joinL un va ra vb rb).Nodup := by
  unfold joinL
  refine List.pairwise_flatMap.2 ⟨fun r hr => ?_, ?_⟩
  · refine List.pairwise_map.2 ?_
    refine List.Pairwise.imp_of_mem (R := (· ≠ ·)) (fun {s s'} hs hs' hne e => ?_) (List.Pairwise.filter _ nb)
    rw [List.mem_filter] at hs hs'
    apply hne
    rw [← glue_right (un := un) (va := va) (r := r) hb (hrb s hs.1) hub hs.2, e, glue_right hb (hrb s' hs'.1) hub hs'.2]
  · refine List.Pairwise.imp_of_mem (R := (· ≠ ·)) (fun {r r'} hr hr' hne _ hx y hy e => ?_) na
    rw [List.mem_map] at hx hy
    obtain ⟨s, _, rfl⟩ := hx
    obtain ⟨s', _, rfl⟩ := hy
    apply hne
    rw [← glue_left (un := un) (vb := vb) (s := s) ha (hra r hr) hua, e, glue_left ha (hra r' hr') hua]
theorem asc_nodup {l : List Int} (h : Asc l) : l.Nodup := List.Pairwise.imp (fun {_ _} h => by omega) h
structure VrOk (d : VRd) : Prop where
  asc : Asc d.1
  lo : ∀ v ∈ d.1, 0 ≤ v ∧ v ≤ 4
  len : d.1.length ≤ 5
  ar : d.2.1 = (d.1.length : Int)
  cnt : d.2.2.length ≤ 4000
  rl : ∀ r ∈ d.2.2, r.length = d.1.length
  rv : ∀ r ∈ d.2.2, rowV r = true
  ra : AscR d.2.2
theorem vars1_iff {xs : List Int} : varsB xs = true ↔ Asc xs ∧ ∀ v ∈ xs, 0 ≤ v ∧ v ≤ 4 := by
  unfold varsB
  rw [allN_true]
  constructor
  · intro h
    have hv : ∀ i (hi : i < xs.length), 0 ≤ xs[i] ∧ xs[i] ≤ 4 := fun i hi => by
      have := h i (by omega) (by omega)
      unfold vars1 at this
      rw [getDl _ _ hi, Bool.and_eq_true] at this
      exact inB_t this.1
    refine ⟨?_, fun v hv2 => by obtain ⟨i, hi, rfl⟩ := List.getElem_of_mem hv2; exact hv i hi⟩
    have hn : ∀ i (hi : i + 1 < xs.length), xs[i] < xs[i + 1] := fun i hi => by
      have := h (i + 1) (by omega) (by omega)
      unfold vars1 at this
      rw [getDl _ _ hi, show i + 1 - 1 = i by omega, getDl _ _ (show i < xs.length by omega), Bool.and_eq_true] at this
      simpa using this.2
    unfold Asc
    rw [List.pairwise_iff_getElem]
    intro i j hi hj hij
    obtain ⟨d, rfl⟩ : ∃ d, j = i + 1 + d := ⟨j - i - 1, by omega⟩
    induction d with
    | zero => exact hn i hj
    | succ d ih =>
      have h1 := ih (by omega) (by omega)
      have h2 := hn (i + 1 + d) hj
      exact Int.lt_trans h1 h2
  · rintro ⟨h1, h2⟩ i _ hi
    rw [Nat.zero_add] at hi
    unfold vars1
    have h3 := h2 _ (List.getElem_mem hi)
    rw [getDl _ _ hi, Bool.and_eq_true]
    refine ⟨by simp [inB, h3], ?_⟩
    rcases Nat.eq_zero_or_pos i with h4 | h4
    · simp [h4]
    · rw [getDl _ _ (show i - 1 < xs.length by omega)]
      have := List.pairwise_iff_getElem.1 h1 (i - 1) i (by omega) hi (by omega)
      simp [this]
theorem asc_bd : ∀ {xs : List Int} {lo hi : Int}, Asc xs → (∀ v ∈ xs, lo ≤ v ∧ v ≤ hi) → lo ≤ hi + 1 → (xs.length : Int) ≤ hi + 1 - lo
  | [], lo, hi, _, _, h => by simp; omega
  | x :: xs, lo, hi, h, hb, _ => by
    unfold Asc at h
    rw [List.pairwise_cons] at h
    have hx := hb x (by simp)
    have := asc_bd (xs := xs) (lo := x + 1) (hi := hi) h.2 (fun v hv => ⟨by have := h.1 v hv; omega, (hb v (by simp [hv])).2⟩) (by omega)
    simp only [List.length_cons]
    omega
theorem asc_len5 {xs : List Int} (h : Asc xs) (hb : ∀ v ∈ xs, 0 ≤ v ∧ v ≤ 4) : xs.length ≤ 5 := by
  have := asc_bd h hb (by omega)
  omega
theorem vrB_iff {d : VRd} : vrB d = true ↔ VrOk d := by
  unfold vrB
  rw [Bool.and_eq_true, Bool.and_eq_true, vars1_iff, rowsB_iff, decide_eq_true_eq]
  constructor
  · rintro ⟨⟨⟨h1, h2⟩, h3, h4, h5, h6, h7⟩, h8⟩
    exact ⟨h1, h2, by omega, h8, h5, fun r hr => by have := (h6 r hr).1; omega, fun r hr => (h6 r hr).2, h7⟩
  · intro h
    have := h.len
    exact ⟨⟨⟨h.asc, h.lo⟩, by rw [h.ar]; omega, by rw [h.ar]; omega, h.cnt, fun r hr => ⟨by rw [h.ar, h.rl r hr], h.rv r hr⟩, h.ra⟩, h.ar⟩
def semiR (a b : VRd) : Option VRd := if vrB a = true ∧ vrB b = true then some (a.1, a.2.1, semiL a.1 a.2.2 b.1 b.2.2) else none
def joinVR (a b : VRd) : VRd := (uniL a.1 b.1, ((uniL a.1 b.1).length : Int), sortR (joinL (uniL a.1 b.1) a.1 a.2.2 b.1 b.2.2))
def joinR (a b : VRd) : Option VRd := if (vrB a = true ∧ vrB b = true) ∧ (joinL (uniL a.1 b.1) a.1 a.2.2 b.1 b.2.2).length ≤ 4000 then some (joinVR a b) else none
theorem semi_ok {a b d : VRd} (h : semiR a b = some d) : VrOk d := by
  unfold semiR at h
  split at h
  · rename_i hh
    injection h with h
    subst h
    have ha := vrB_iff.1 hh.1
    have hs : ∀ r ∈ semiL a.1 a.2.2 b.1 b.2.2, r ∈ a.2.2 := fun r hr => (List.mem_filter.1 hr).1
    exact ⟨ha.asc, ha.lo, ha.len, ha.ar, Nat.le_trans (List.length_filter_le _ _) ha.cnt, fun r hr => ha.rl r (hs r hr), fun r hr => ha.rv r (hs r hr), ascR_filter _ ha.ra⟩
  · cases h
theorem rowV_iff {r : List Int} : rowV r = true ↔ ∀ x ∈ r, 0 ≤ x ∧ x ≤ 99 := by
  unfold rowV
  rw [List.all_eq_true]
  constructor
  · exact fun h x hx => inB_t (h x hx)
  · exact fun h x hx => by simp [inB, h x hx]
theorem valAt_mem {va r : List Int} {v : Int} (h : v ∈ va) (hl : r.length = va.length) : valAt va r v ∈ r := by
  obtain ⟨i, h1, h2⟩ := iof_get (k := 0) h
  unfold valAt
  have hi : i < va.length := (List.getElem?_eq_some_iff.1 h2).1
  rw [h1, Int.toNat_natCast, Nat.zero_add, getDl _ _ (by omega)]
  exact List.getElem_mem _
theorem glue_valid {un va r vb s : List Int} (hu : ∀ v ∈ un, v ∈ va ∨ v ∈ vb) (hr : r.length = va.length) (hs : s.length = vb.length) (vr : rowV r = true) (vs : rowV s = true) : rowV (glueR un va r vb s) = true := by
  rw [rowV_iff] at vr vs ⊢
  intro x hx
  unfold glueR at hx
  obtain ⟨v, hv, rfl⟩ := List.mem_map.1 hx
  split
  · rename_i h; exact vr _ (valAt_mem h hr)
  · rename_i h
    rcases hu v hv with k | k
    · exact absurd k h
    · exact vs _ (valAt_mem k hs)
theorem join_mem {a b : VRd} (ha : VrOk a) (hb : VrOk b) {t : List Int} : t ∈ joinL (uniL a.1 b.1) a.1 a.2.2 b.1 b.2.2 ↔ ∃ g : Int → Int, (uniL a.1 b.1).map g = t ∧ a.1.map g ∈ a.2.2 ∧ b.1.map g ∈ b.2.2 :=
  mem_joinL (asc_nodup ha.asc) (asc_nodup hb.asc) ha.rl hb.rl fun _ h => mem_uniL.1 h
theorem join_rows {a b : VRd} (ha : VrOk a) (hb : VrOk b) : ∀ t ∈ joinL (uniL a.1 b.1) a.1 a.2.2 b.1 b.2.2, t.length = (uniL a.1 b.1).length ∧ rowV t = true := fun t ht => by
  unfold joinL at ht
  simp only [List.mem_flatMap, List.mem_map, List.mem_filter] at ht
  obtain ⟨r, hr, s, ⟨hs, _⟩, rfl⟩ := ht
  exact ⟨by simp [glueR], glue_valid (fun _ h => mem_uniL.1 h) (ha.rl r hr) (hb.rl s hs) (ha.rv r hr) (hb.rv s hs)⟩
theorem uni_bd {a b : VRd} (ha : VrOk a) (hb : VrOk b) : ∀ v ∈ uniL a.1 b.1, 0 ≤ v ∧ v ≤ 4 := fun v hv => by
  rcases mem_uniL.1 hv with h | h
  · exact ha.lo v h
  · exact hb.lo v h
theorem join_nodup {a b : VRd} (ha : VrOk a) (hb : VrOk b) : (joinL (uniL a.1 b.1) a.1 a.2.2 b.1 b.2.2).Nodup :=
  joinL_nodup (asc_nodup ha.asc) (asc_nodup hb.asc) ha.rl hb.rl (fun _ h => mem_uniL.2 (.inl h)) (fun _ h => mem_uniL.2 (.inr h)) (ascR_nodup ha.ra) (ascR_nodup hb.ra)
theorem join_ok {a b d : VRd} (h : joinR a b = some d) : VrOk d := by
  unfold joinR at h
  split at h
  · rename_i hh
    obtain ⟨⟨h1, h2⟩, h3⟩ := hh
    injection h with h
    subst h
    have ha := vrB_iff.1 h1
    have hb := vrB_iff.1 h2
    have hA := asc_uniL (b := b.1) ha.asc
    exact ⟨hA, uni_bd ha hb, asc_len5 hA (uni_bd ha hb), rfl, Nat.le_trans (sortR_length _) h3, fun r hr => (join_rows ha hb r (mem_sortR.1 hr)).1, fun r hr => (join_rows ha hb r (mem_sortR.1 hr)).2, asc_sortR _⟩
  · cases h
end Go.Proofs.Ytfigcfajkilhiaa
namespace Go.Proofs.Ytfigcfajkilhiaa
open Go.RowKit
def pickL (row cols : List Int) : List Int := cols.map fun c => row.getD c.toNat 0
theorem pickL_step {row cols : List Int} {k : Nat} (h : k < cols.length) : pickL row (cols.take (k + 1)) = pickL row (cols.take k) ++ [row.getD cols[k].toNat 0] := by
  unfold pickL
  rw [List.take_succ_eq_append_getElem h, List.map_append]
  rfl
theorem pickL_length (row cols : List Int) : (pickL row cols).length = cols.length := by simp [pickL]
theorem RV.atI' {w : World} {A : Option Addr} {xs : List Int} {n : Nat} (h : RI w A xs) (hk : n < xs.length) : ∃ b o, A = some ⟨b, o, none⟩ ∧ b < w.heap.size ∧ w.cell? ⟨b, o + n, none⟩ = some (.int .i64 (xs.getD n 0)) := by
  rw [getDl _ _ hk]
  exact h.atI hk
set_option maxHeartbeats 1000000 in
theorem pick_any {A A' : Option Addr} {c c' : Nat} {row cols : List Int} {w : World} (h1 : RI w A row) (hc : cols.length ≤ 1000000000) (h2 : RI w A' cols) (hb : ∀ v ∈ cols, 0 ≤ v ∧ v < row.length) :
    Calls Try.prog 150 #[.slice A row.length c, .slice A' cols.length c'] w fun e w' => ∃ v F, e = .returned v ∧ (∃ y, w' = ext w y) ∧ SV 3 1 sI w' v (pickL row cols) F ∧ ∀ b ∈ F, w.heap.size ≤ b := by
  have hS0 := SV.empty (α := Int) (te := 3) (size := 1) (E := sI) w
  have Hb := Lib.hid hb
  clear hb
  go_enter Try.func150, Try.ntmps150
  go_wp2
  go_loopw [5, 11] (fun v i wr => ∃ (k : Nat) (F : List Nat), i = .int .i64 k ∧ k ≤ cols.length ∧ SV 3 1 sI wr v (pickL row (cols.take k)) F ∧ (∀ b ∈ F, w.heap.size ≤ b) ∧ (∃ y, wr = ext w y)) (fun _ i _ => cols.length - (intOf i).toNat)
  case atStart => exact ⟨0, _, rfl, by omega, by simpa [pickL] using hS0, by simp, alloc_ext _ _⟩
  case round =>
    obtain ⟨k, F, rfl, hk, hS, hF, hw⟩ := hrel
    have HF := Lib.hid hF
    clear hF
    by_cases hlt : k < cols.length
    · obtain ⟨b, o, rfl, hb', hc'⟩ := (h2.toExt hw).atI hlt
      obtain ⟨n0, n1⟩ := Hb.out _ (List.getElem_mem hlt)
      have Hst := Lib.hid (pickL_step (row := row) hlt)
      have hlk : (pickL row (cols.take k)).length + 1 ≤ 2000000000 := by rw [pickL_length]; simp; omega
      obtain ⟨n, hn⟩ : ∃ n, cols[k] = n := ⟨_, rfl⟩
      rw [hn] at n0 n1 hc' Hst
      clear hn
      obtain ⟨m, rfl⟩ := Int.eq_ofNat_of_zero_le n0
      rw [Int.toNat_natCast] at Hst
      obtain ⟨b1, o1, rfl, hb1, hc1⟩ := (h1.toExt hw).atI' (n := m) (by omega)
      obtain ⟨x, hx⟩ : ∃ x, row.getD m 0 = x := ⟨_, rfl⟩
      rw [hx] at hc1 Hst
      clear hx
      have n2 : (m : Int) < row.length := n1
      go_wp2_with (at_builtin; refine wpList_app1 (E := sI) (d := x) rfl _ _ _ rfl tI rfl rfl rfl (by simp) (fun _ => ⟨rfl, rfl⟩) rfl (by simp [Value.oneCell']) hS hlk (by omega) ?_; intro v' w' F' hS' hC' hF')
      exact ⟨⟨k + 1, F', by go_num, by omega, by rw [Hst.out]; exact hS', newer HF.out (size_of_ext hw) hF', hC'.isExt hw HF.out⟩, by simp [intOf]; omega⟩
    · rw [List.take_of_length_le (by omega)] at hS
      go_wp2
      go_ret
      exact ⟨_, F, rfl, hw, hS, HF.out⟩
set_option maxHeartbeats 1000000 in
theorem l5Cols_any {A A' : Option Addr} {c c' : Nat} {row cols : List Int} {w : World} (h1 : RI w A row) (hc : cols.length ≤ 1000000000) (h2 : RI w A' cols) (hb : ∀ v ∈ cols, 0 ≤ v ∧ v < row.length) :
    Calls Try.prog 119 #[.slice A row.length c, .slice A' cols.length c'] w fun e w' => ∃ v F, e = .returned v ∧ (∃ y, w' = ext w y) ∧ SV 3 1 sI w' v (pickL row cols) F ∧ ∀ b ∈ F, w.heap.size ≤ b := by
  have hS0 := SV.empty (α := Int) (te := 3) (size := 1) (E := sI) w
  have Hb := Lib.hid hb
  clear hb
  go_enter Try.func119, Try.ntmps119
  go_wp2
  go_loopw [5, 6] (fun v i wr => ∃ (k : Nat) (F : List Nat), i = .int .i64 k ∧ k ≤ cols.length ∧ SV 3 1 sI wr v (pickL row (cols.take k)) F ∧ (∀ b ∈ F, w.heap.size ≤ b) ∧ (∃ y, wr = ext w y)) (fun _ i _ => cols.length - (intOf i).toNat)
  case atStart => exact ⟨0, _, rfl, by omega, by simpa [pickL] using hS0, by simp, alloc_ext _ _⟩
  case round =>
    obtain ⟨k, F, rfl, hk, hS, hF, hw⟩ := hrel
    have HF := Lib.hid hF
    clear hF
    by_cases hlt : k < cols.length
    · obtain ⟨b, o, rfl, hb', hc'⟩ := (h2.toExt hw).atI hlt
      obtain ⟨n0, n1⟩ := Hb.out _ (List.getElem_mem hlt)
      have Hst := Lib.hid (pickL_step (row := row) hlt)
      have hlk : (pickL row (cols.take k)).length + 1 ≤ 2000000000 := by rw [pickL_length]; simp; omega
      obtain ⟨n, hn⟩ : ∃ n, cols[k] = n := ⟨_, rfl⟩
      rw [hn] at n0 n1 hc' Hst
      clear hn
      obtain ⟨m, rfl⟩ := Int.eq_ofNat_of_zero_le n0
      rw [Int.toNat_natCast] at Hst
      obtain ⟨b1, o1, rfl, hb1, hc1⟩ := (h1.toExt hw).atI' (n := m) (by omega)
      obtain ⟨x, hx⟩ : ∃ x, row.getD m 0 = x := ⟨_, rfl⟩
      rw [hx] at hc1 Hst
      clear hx
      have n2 : (m : Int) < row.length := n1
      go_wp2_with (at_builtin; refine wpList_app1 (E := sI) (d := x) rfl _ _ _ rfl tI rfl rfl rfl (by simp) (fun _ => ⟨rfl, rfl⟩) rfl (by simp [Value.oneCell']) hS hlk (by omega) ?_; intro v' w' F' hS' hC' hF')
      exact ⟨⟨k + 1, F', by go_num, by omega, by rw [Hst.out]; exact hS', newer HF.out (size_of_ext hw) hF', hC'.isExt hw HF.out⟩, by simp [intOf]; omega⟩
    · rw [List.take_of_length_le (by omega)] at hS
      go_wp2
      go_ret
      exact ⟨_, F, rfl, hw, hS, HF.out⟩
def fitsC (a : Int) (cols : List Int) : Bool := decide (cols.length ≤ 5) && cols.all fun c => inB c 0 (a - 1)
theorem fitsC_iff {a : Int} {cols : List Int} : fitsC a cols = true ↔ cols.length ≤ 5 ∧ ∀ v ∈ cols, 0 ≤ v ∧ v < a := by
  unfold fitsC
  rw [Bool.and_eq_true, decide_eq_true_eq, List.all_eq_true]
  refine and_congr_right fun _ => ?_
  constructor
  · intro h v hv; have := inB_t (h v hv); omega
  · intro h v hv; have := h v hv; simp [inB]; omega
set_option maxHeartbeats 400000 in
theorem columnsFit_any {A : Option Addr} {c : Nat} {a : Int} {cols : List Int} {w : World} (ha0 : -1000000000 ≤ a) (ha1 : a ≤ 1000000000) (hx : cols.length ≤ 1000000000) (h1 : RI w A cols) :
    Calls Try.prog 148 #[.int .i64 a, .slice A cols.length c] w fun e w' => e = .returned (.bool (fitsC a cols)) ∧ w = w' := by
  by_cases h5 : cols.length ≤ 5
  · have HE := Lib.hid (show fitsC a cols = cols.all fun c => inB c 0 (a - 1) by unfold fitsC; rw [decide_eq_true h5, Bool.true_and])
    go_enter Try.func148, Try.ntmps148
    go_wp2
    go_loop [12] (fun i => ∃ k : Nat, i = .int .i64 k ∧ k ≤ cols.length ∧ ((cols.drop k).all fun c => inB c 0 (a - 1)) = cols.all fun c => inB c 0 (a - 1)) (fun i => cols.length - (intOf i).toNat)
    case atStart => exact ⟨0, rfl, by omega, by simp⟩
    case round =>
      obtain ⟨k, rfl, hk, hj⟩ := hrel
      have Hj := Lib.hid hj
      clear hj
      by_cases hlt : k < cols.length
      · obtain ⟨b, o, rfl, hb, hc⟩ := h1.atI hlt
        have e := Hj.out
        rw [allR_step hlt] at e
        obtain ⟨t, ht⟩ : ∃ t, inB cols[k] 0 (a - 1) = t := ⟨_, rfl⟩
        rw [ht] at e
        have HT := Lib.hid ht
        have He := Lib.hid e
        clear e ht
        cases t
        · go_wp2_with (go_at_call 121; refine (within_any _ _ _ _).mono ?_; rintro e w' ⟨rfl, rfl⟩; rw [HT.out])
          go_ret
          exact ⟨by rw [HE.out, ← He.out]; rfl, rfl⟩
        · go_wp2_with (go_at_call 121; refine (within_any _ _ _ _).mono ?_; rintro e w' ⟨rfl, rfl⟩; rw [HT.out])
          exact ⟨⟨k + 1, by go_num, by omega, by simpa using He.out⟩, by simp [intOf]; omega⟩
      · have e := Hj.out
        rw [allR_end hlt] at e
        have He := Lib.hid e
        clear e
        go_wp2
        go_ret
        exact ⟨by rw [HE.out, ← He.out]; rfl, rfl⟩
  · have HE := Lib.hid (show fitsC a cols = false by unfold fitsC; rw [decide_eq_false h5, Bool.false_and])
    go_enter Try.func148, Try.ntmps148
    go_wp2
    go_ret
    exact ⟨by rw [HE.out]; rfl, rfl⟩
def PlI (rows : List (List Int)) (row : List Int) (lo hi : Nat) : Prop := AscR rows → (∀ i (_ : i < rows.length), i < lo → cmpL rows[i] row < 0) ∧ ∀ i (_ : i < rows.length), hi ≤ i → ¬ cmpL rows[i] row < 0
theorem PlI.up {rows : List (List Int)} {row : List Int} {lo hi m : Nat} (h : PlI rows row lo hi) (hm : m < rows.length) (hc : cmpL rows[m] row < 0) : PlI rows row (m + 1) hi := fun ha => by
  refine ⟨fun i hi hlt => ?_, (h ha).2⟩
  rcases Nat.lt_or_eq_of_le (Nat.le_of_lt_succ hlt) with k | k
  · exact cmpL_trans (asc_get ha k hm) hc
  · subst k; exact hc
theorem PlI.start (rows : List (List Int)) (row : List Int) : PlI rows row 0 rows.length := fun _ => ⟨fun i _ h => by omega, fun i h k => by omega⟩
end Go.Proofs.Ytfigcfajkilhiaa
namespace Go.Proofs.Ytfigcfajkilhiaa
open Go.RowKit
set_option maxHeartbeats 1000000 in
theorem copyRows_any {A : Option Addr} {c : Nat} {rows : List (List Int)} {w : World} (hx : rows.length ≤ 1000000000) (hxl : ∀ x ∈ rows, x.length ≤ 1000000000) (h1 : RII w A rows) :
    Calls Try.prog 173 #[.slice A rows.length c] w fun e w' => ∃ v F, e = .returned v ∧ (∃ y, w' = ext w y) ∧ SV 48 1 (sSl 3 1 sI) w' v rows F ∧ F.Nodup ∧ ∀ b ∈ F, w.heap.size ≤ b := by
  have Hxl := Lib.hid hxl
  clear hxl
  go_enter Try.func173, Try.ntmps173
  go_wp2
  go_loopw [3, 8] (fun v i wr => ∃ (k : Nat) (F : List Nat), i = .int .i64 k ∧ k ≤ rows.length ∧ SV 48 1 (sSl 3 1 sI) wr v (rows.take k) F ∧ Hid F.Nodup ∧ (∀ b ∈ F, w.heap.size ≤ b) ∧ (∃ y, wr = ext w y)) (fun _ i _ => rows.length - (intOf i).toNat)
  case atStart => exact ⟨0, [], rfl, by omega, SV.nil, Lib.hid (by simp), by simp, refl_ext w⟩
  case round =>
    obtain ⟨k, F, rfl, hk, hS, HN, hF, hw⟩ := hrel
    have HF := Lib.hid hF
    clear hF
    by_cases hlt : k < rows.length
    · obtain ⟨b, o, A1, c1, rfl, hb, hc, hv⟩ := (h1.toExt hw).atV hlt
      have lx := Hxl.out rows[k] (List.getElem_mem hlt)
      have Ht := Lib.hid (show rows.take (k + 1) = rows.take k ++ [rows[k]] from List.take_succ_eq_append_getElem hlt)
      have hlk : (rows.take k).length + 1 ≤ 2000000000 := by simp; omega
      have hSlt := Lib.hid hS.lt
      obtain ⟨x, hx1⟩ : ∃ x, rows[k] = x := ⟨_, rfl⟩
      rw [hx1] at hc hv lx Ht
      clear hx1
      go_wp2_with (first
        | (go_at_call 114; refine (copyInts_v lx hv).mono ?_; rintro e w1 ⟨v1, F1, rfl, hx1, hS1, hF1⟩; obtain ⟨A2, c2, rfl, _, _⟩ := hS1.form; have hN2 := nodup_more HN.out hS1.nodup hSlt.out hF1; have hz1 := size_of_ext hx1)
        | (at_builtin; refine wpList_appN (E := sSl 3 1 sI) (d := x) (G := F1) rfl _ _ _ rfl tIIr rfl rfl rfl (by simp) ⟨_, rfl, hS1⟩ rfl (by simp [Value.oneCell']) (hS.toExt hx1) hN2 hlk (by omega) ?_; intro v' w' F' hS' hC' hN' hF'))
      refine ⟨⟨k + 1, F', by go_num, by omega, by rw [Ht.out]; exact hS', Lib.hid hN', fun b hb => ?_, hC'.isExt (trans_ext hw hx1) HF.out⟩, by simp [intOf]; omega⟩
      have hzw := size_of_ext hw
      rcases hF' b hb with h | h | h
      · exact HF.out b h
      · have := hF1 b h; omega
      · omega
    · rw [List.take_of_length_le (by omega)] at hS
      go_wp2
      go_ret
      exact ⟨_, F, rfl, hw, hS, HN.out, HF.out⟩
set_option maxHeartbeats 1000000 in
theorem copyRelation_any {z : Int} {A : Option Addr} {c : Nat} {rows : List (List Int)} {w : World} (hx : rows.length ≤ 1000000000) (hxl : ∀ x ∈ rows, x.length ≤ 1000000000) (h1 : RII w A rows) :
    Calls Try.prog 93 #[.agg #[.int .i64 z, .slice A rows.length c]] w fun e w' => ∃ v0 v1 F, e = .returned (.agg #[v0, v1]) ∧ (∃ y, w' = ext w y) ∧ sRel w' [v0, v1] (z, rows) F ∧ F.Nodup ∧ ∀ b ∈ F, w.heap.size ≤ b := by
  have Hxl := Lib.hid hxl
  clear hxl
  go_enter Try.func93, Try.ntmps93
  go_upto_region 1 with fail
  refine wp_name ?_
  intro w0 hw0
  have hx0 : ∃ y, w0 = ext w y := by rw [hw0.out]; exact (by refine x'z ?_; repeat (with_reducible (first | exact x'a _ _ | exact x'b _ | exact x'c (by assumption) | refine x'd ?_ (by assumption) | refine x'e ?_ _ | refine x'f ?_ _ | refine x'g ?_ | refine x'h ?_ ?_ _ | refine x'i ?_ _ | refine x'j ?_ | refine x'k ?_ _ | refine x'l ?_ _ _ | refine x'm ?_ | assumption | (refine x'n ?_; omega) | omega)))
  have P0 : BoxAt w0 w.heap.size #[.int .i64 z, .slice A rows.length c] := by rw [hw0.out]; exact (by repeat (with_reducible (first | assumption | exact BoxAt.new _ _ _ | apply BoxAt.set2 | refine BoxAt.set2' ?_ (by omega) | apply BoxAt.setP0 | apply BoxAt.setP1 | refine BoxAt.setO ?_ (by omega) | refine BoxAt.alloc ?_ _ | refine BoxAt.drew ?_ | refine BoxAt.toExt ?_ (by assumption))))
  have R0 : BoxAt w0 (w.heap.size + 1) #[.int .i64 0, .slice none 0 0] := by
    rw [hw0.out]
    simpa using BoxAt.new (w.alloc (.cells #[.int .i64 z, .slice A rows.length c] 39)) #[.int .i64 0, .slice none 0 0] 39
  obtain ⟨l0, k0, k0', f0⟩ := bx2 P0
  obtain ⟨m0, n0, n0', g0⟩ := bx2 R0
  have hz0 := size_of_ext hx0
  clear hw0
  go_region_held3 (fun w' => w'.cell? ⟨w.heap.size, 0, none⟩ = some (.int .i64 z) ∧ w'.cell? ⟨w.heap.size, 1, none⟩ = some (.slice A rows.length c)) (first | go_keep | exact ⟨k1, k1'⟩) ((go_at_call 173; refine (copyRows_any hx Hxl.out (h1.toExt (by refine x'z ?_; repeat (with_reducible (first | exact x'a _ _ | exact x'b _ | exact x'c (by assumption) | refine x'd ?_ (by assumption) | refine x'e ?_ _ | refine x'f ?_ _ | refine x'g ?_ | refine x'h ?_ ?_ _ | refine x'i ?_ _ | refine x'j ?_ | refine x'k ?_ _ | refine x'l ?_ _ _ | refine x'm ?_ | assumption | (refine x'n ?_; omega) | omega))))).mono ?_; rintro e w1 ⟨v1, F1, rfl, hx1, hS1, hN1, hF1⟩; obtain ⟨A1, c1, rfl, _, _⟩ := hS1.form; obtain ⟨l1, k1, k1', f1⟩ := bx2 (P0.drew.toExt hx1); obtain ⟨m1, n1, n1', g1⟩ := bx2 (R0.drew.toExt hx1)))
  go_wp2_with fail
  have hz1 := size_of_ext hx1
  refine bodyPost_ret (v := .agg #[.int .i64 z, .slice A1 rows.length c1]) (by simp [results, Try.results93, go_sem, *]) rfl ⟨_, _, F1, rfl, (by refine x'z ?_; repeat (with_reducible (first | exact x'a _ _ | exact x'b _ | exact x'c (by assumption) | refine x'd ?_ (by assumption) | refine x'e ?_ _ | refine x'f ?_ _ | refine x'g ?_ | refine x'h ?_ ?_ _ | refine x'i ?_ _ | refine x'j ?_ | refine x'k ?_ _ | refine x'l ?_ _ _ | refine x'm ?_ | assumption | (refine x'n ?_; omega) | omega))), sRel_mk (OD.chg (E := sII) (G := [w.heap.size + 1]) ⟨_, rfl, hS1⟩ (by repeat (with_reducible (first | exact Chg.refl _ _ | refine Chg.trans0 ?_ (by assumption) | refine Chg.extS ?_ _ | refine Chg.alloc ?_ _ | refine Chg.drew ?_ | refine Chg.setCell ?_ (.inl (by simp)) _))) ?_), hN1, ?_⟩
  · intro b hb h
    have := hF1 b hb
    simp at h this
    omega
  · intro b hb
    have := hF1 b hb
    simp at this
    omega
end Go.Proofs.Ytfigcfajkilhiaa
namespace Go.Proofs.Ytfigcfajkilhiaa
open Go.RowKit
def letB (b : UInt8) : Bool := decide (97 ≤ b.toNat ∧ b.toNat ≤ 122)
def nameB (s : ByteArray) : Bool := inB s.size 1 4 && (bl s).all letB
theorem letB_t {b : UInt8} (h : letB b = true) : 97 ≤ (b.toNat : Int) ∧ (b.toNat : Int) ≤ 122 := by simp [letB] at h; omega
theorem letB_f {b : UInt8} (h : ¬ letB b = true) : (b.toNat : Int) < 97 ∨ 122 < (b.toNat : Int) := by simp [letB] at h; omega
theorem lets_step {s : ByteArray} {k : Nat} (h : k < s.size) : ((bl s).drop k).all letB = (letB s[k] && ((bl s).drop (k + 1)).all letB) := by
  rw [List.drop_eq_getElem_cons (by rw [bl_length]; exact h), List.all_cons, bl_get s h]
theorem lets_end {s : ByteArray} {k : Nat} (h : ¬ k < s.size) : ((bl s).drop k).all letB = true := by
  rw [List.drop_eq_nil_of_le (by rw [bl_length]; omega)]; rfl
set_option maxHeartbeats 400000 in
theorem isLetters_any {s : ByteArray} {w : World} (hs : s.size ≤ 1000000000) :
    Calls Try.prog 186 #[.string s, .int .i64 4] w fun e w' => e = .returned (.bool (nameB s)) ∧ w = w' := by
  by_cases h1 : s.size < 1
  · have HE := Lib.hid (show nameB s = false by unfold nameB inB; rw [decide_eq_false (by omega), Bool.false_and])
    go_enter Try.func186, Try.ntmps186
    go_wp2
    go_ret
    exact ⟨by rw [HE.out]; rfl, rfl⟩
  · by_cases h2 : 4 < s.size
    · have HE := Lib.hid (show nameB s = false by unfold nameB inB; rw [decide_eq_false (by omega), Bool.false_and])
      go_enter Try.func186, Try.ntmps186
      go_wp2
      go_ret
      exact ⟨by rw [HE.out]; rfl, rfl⟩
    · have HE := Lib.hid (show nameB s = (bl s).all letB by unfold nameB inB; rw [decide_eq_true (by omega), Bool.true_and])
      go_enter Try.func186, Try.ntmps186
      go_wp2
      go_loop [5] (fun i => ∃ k : Nat, i = .int .i64 k ∧ k ≤ s.size ∧ ((bl s).drop k).all letB = nameB s) (fun i => s.size - (intOf i).toNat)
      case atStart => exact ⟨0, rfl, by omega, by rw [HE.out]; simp⟩
      case round =>
        obtain ⟨k, rfl, hk, hj⟩ := hrel
        have Hj := Lib.hid hj
        clear hj
        by_cases hlt : k < s.size
        · have e := Hj.out
          rw [lets_step hlt] at e
          by_cases hl : letB s[k] = true
          · obtain ⟨q1, q2⟩ := letB_t hl
            rw [hl, Bool.true_and] at e
            have He := Lib.hid e
            clear e hl
            go_wp2
            exact ⟨⟨k + 1, by go_num, by omega, He.out⟩, by simp [intOf]; omega⟩
          · rw [show letB s[k] = false by simpa using hl, Bool.false_and] at e
            have He := Lib.hid e
            rcases letB_f hl with q | q
            all_goals
              clear e hl
              go_wp2
              go_ret
              exact ⟨by rw [← He.out]; rfl, rfl⟩
        · have e := Hj.out
          rw [lets_end hlt] at e
          have He := Lib.hid e
          clear e
          go_wp2
          go_ret
          exact ⟨by rw [← He.out]; rfl, rfl⟩
theorem IsValidName_any {s : ByteArray} {w : World} (hs : s.size ≤ 1000000000) :
    Calls Try.prog 144 #[.string s] w fun e w' => e = .returned (.bool (nameB s)) ∧ w = w' := by
  go_enter Try.func144, Try.ntmps144
  go_wp2_with (go_at_call 186; refine (isLetters_any hs).mono ?_; rintro e w' ⟨rfl, rfl⟩)
  go_ret
  exact ⟨rfl, rfl⟩
set_option maxHeartbeats 400000 in
theorem specIsValidName_any {s : ByteArray} {w : World} (hs : s.size ≤ 1000000000) :
    Calls Try.prog 143 #[.string s] w fun e w' => e = .returned (.bool (nameB s)) ∧ w = w' := by
  go_enter Try.func143, Try.ntmps143
  go_wp2
  go_loop [3] (fun i => ∃ k : Nat, i = .int .i64 k ∧ k ≤ s.size ∧ ((bl s).drop k).all letB = (bl s).all letB) (fun i => s.size - (intOf i).toNat)
  case atStart => exact ⟨0, rfl, by omega, by simp⟩
  case round =>
    obtain ⟨k, rfl, hk, hj⟩ := hrel
    have Hj := Lib.hid hj
    clear hj
    by_cases hlt : k < s.size
    · have e := Hj.out
      rw [lets_step hlt] at e
      by_cases hl : letB s[k] = true
      · obtain ⟨q1, q2⟩ := letB_t hl
        rw [hl, Bool.true_and] at e
        have He := Lib.hid e
        clear e hl
        go_wp2
        exact ⟨⟨k + 1, by go_num, by omega, He.out⟩, by simp [intOf]; omega⟩
      · rw [show letB s[k] = false by simpa using hl, Bool.false_and] at e
        have He := Lib.hid (show nameB s = false by unfold nameB; rw [← e, Bool.and_false])
        rcases letB_f hl with q | q
        all_goals
          clear e hl
          go_wp2
          go_ret
          exact ⟨by rw [He.out]; rfl, rfl⟩
    · have e := Hj.out
      rw [lets_end hlt] at e
      have He := Lib.hid (show nameB s = inB s.size 1 4 by unfold nameB; rw [← e, Bool.and_true])
      clear e
      go_wp2_with (go_at_call 123; refine (l1In_any _ _ _ _).mono ?_; rintro e w' ⟨rfl, rfl⟩)
      go_ret
      exact ⟨by rw [He.out]; rfl, rfl⟩
def setB (n : Int) : List Int → List Int → Bool
  | _, [] => true
  | pre, x :: xs => inB x 0 (n - 1) && !decide (x ∈ pre) && setB n (pre ++ [x]) xs
theorem setB_step {n : Int} {xs : List Int} {k : Nat} (h : k < xs.length) : setB n (xs.take k) (xs.drop k) = (inB xs[k] 0 (n - 1) && !decide (xs[k] ∈ xs.take k) && setB n (xs.take (k + 1)) (xs.drop (k + 1))) := by
  rw [List.drop_eq_getElem_cons h, setB, List.take_succ_eq_append_getElem h]
theorem setB_end {n : Int} {xs : List Int} {k : Nat} (h : ¬ k < xs.length) : setB n (xs.take k) (xs.drop k) = true := by
  rw [List.drop_eq_nil_of_le (by omega), setB]
theorem setB_sound : ∀ {n : Int} {xs pre : List Int}, setB n pre xs = true → (∀ x ∈ xs, 0 ≤ x ∧ x < n) ∧ xs.Nodup ∧ ∀ x ∈ xs, x ∉ pre
  | n, [], pre, _ => ⟨by simp, by simp, by simp⟩
  | n, x :: xs, pre, h => by
    rw [setB, Bool.and_eq_true, Bool.and_eq_true] at h
    obtain ⟨⟨h1, h2⟩, h3⟩ := h
    have h1 := inB_t h1
    obtain ⟨a, b, c⟩ := setB_sound h3
    refine ⟨?_, ?_, ?_⟩
    · intro y hy
      rcases List.mem_cons.1 hy with e | e
      · subst e; omega
      · exact a y e
    · refine List.nodup_cons.2 ⟨fun hm => ?_, b⟩
      have := c x hm
      simp at this
    · intro y hy
      rcases List.mem_cons.1 hy with e | e
      · subst e; simpa using h2
      · intro hp
        have := c y e
        simp [hp] at this
theorem nodup_len : ∀ (n : Nat) (xs : List Int), xs.Nodup → (∀ x ∈ xs, 0 ≤ x ∧ x < n) → xs.length ≤ n
  | 0, xs, _, h => by
    cases xs with
    | nil => simp
    | cons x xs => have := h x (by simp); omega
  | n + 1, xs, hn, h => by
    by_cases hm : (n : Int) ∈ xs
    · obtain ⟨s, t, rfl⟩ := List.append_of_mem hm
      have hn2 := List.nodup_append.1 hn
      have hn3 := List.nodup_cons.1 hn2.2.1
      have h2 : (s ++ t).Nodup := List.nodup_append.2 ⟨hn2.1, hn3.2, fun a ha b hb => hn2.2.2 a ha b (by simp [hb])⟩
      have := nodup_len n (s ++ t) h2 fun x hx => by
        have h3 := h x (by rcases List.mem_append.1 hx with e | e <;> simp [e])
        have h4 : x ≠ n := by
          rintro rfl
          rcases List.mem_append.1 hx with e | e
          · exact hn2.2.2 _ e _ (by simp) rfl
          · exact hn3.1 e
        omega
      simp at this ⊢
      omega
    · have := nodup_len n xs hn fun x hx => by
        have h3 := h x hx
        have h4 : x ≠ n := by rintro rfl; exact hm hx
        omega
      omega
theorem setB_len {n : Int} {xs : List Int} (h : setB n [] xs = true) (hn : 0 ≤ n) : (xs.length : Int) ≤ n := by
  obtain ⟨a, b, _⟩ := setB_sound h
  have := nodup_len n.toNat xs b fun x hx => by have := a x hx; omega
  omega
theorem RV.pre {w : World} {α : Type} {size : Nat} {E : VE α} {A : Option Addr} {xs : List α} (h : RV size E w A xs) (k : Nat) : RV size E w A (xs.take k) := fun hn => by
  obtain ⟨b, o, h1, h2, h3⟩ := h (by intro e; subst e; simp at hn)
  refine ⟨b, o, h1, h2, fun j hj => ?_⟩
  simp only [List.length_take] at hj
  obtain ⟨c, hc, hr, he⟩ := h3 j (by omega)
  exact ⟨c, hc, hr, by simpa using he⟩
theorem hasInt_n {A : Option Addr} {c m : Nat} {xs : List Int} {n : Int} {w : World} (hm : xs.length = m) (hx : m ≤ 1000000000) (h1 : RI w A xs) :
    Calls Try.prog 153 #[.slice A m c, .int .i64 n] w fun e w' => e = .returned (.bool (decide (n ∈ xs))) ∧ ∃ y, w' = ext w y := by
  subst hm
  exact hasInt_any hx h1
set_option maxHeartbeats 1000000 in
theorem isSetOf_any {A : Option Addr} {c : Nat} {xs : List Int} {n : Int} {w : World} (hx : xs.length ≤ 1000000000) (hcap : xs.length ≤ c) (h1 : RI w A xs) (hn0 : 0 ≤ n) (hn1 : n ≤ 1000) :
    Calls Try.prog 188 #[.slice A xs.length c, .int .i64 n] w fun e w' => e = .returned (.bool (setB n [] xs)) ∧ ∃ y, w' = ext w y := by
  go_enter Try.func188, Try.ntmps188
  go_wp2
  go_loopw [9] (fun i wr => ∃ k : Nat, i = .int .i64 k ∧ k ≤ xs.length ∧ setB n (xs.take k) (xs.drop k) = setB n [] xs ∧ ∃ y, wr = ext w y) (fun i _ => xs.length - (intOf i).toNat)
  case atStart => exact ⟨0, rfl, by omega, by simp, refl_ext w⟩
  case round =>
    obtain ⟨k, rfl, hk, hj, hy⟩ := hrel
    have Hj := Lib.hid hj
    clear hj
    by_cases hlt : k < xs.length
    · have h1' := h1.toExt hy
      obtain ⟨b, o, rfl, hb, hc⟩ := h1'.atI hlt
      have e := Hj.out
      rw [setB_step hlt] at e
      obtain ⟨t1, ht1⟩ : ∃ t, inB xs[k] 0 (n - 1) = t := ⟨_, rfl⟩
      obtain ⟨t2, ht2⟩ : ∃ t, decide (xs[k] ∈ xs.take k) = t := ⟨_, rfl⟩
      rw [ht1, ht2] at e
      have T1 := Lib.hid ht1
      have T2 := Lib.hid ht2
      have He := Lib.hid e
      have hp := h1'.pre k
      have hpl : (xs.take k).length = k := by simp; omega
      have HP := Lib.hid hpl
      clear e ht1 ht2 hpl
      cases t1 with
      | false =>
        go_wp2_with (go_at_call 121; refine (within_any _ _ _ _).mono ?_; rintro e w' ⟨rfl, rfl⟩; rw [T1.out])
        go_ret
        exact ⟨by rw [← He.out]; rfl, hy⟩
      | true =>
        cases t2 with
        | true =>
          go_wp2_with (first
            | (go_at_call 121; refine (within_any _ _ _ _).mono ?_; rintro e w' ⟨rfl, rfl⟩; rw [T1.out])
            | (go_at_call 153; refine (hasInt_n HP.out (by omega) hp).mono ?_; rintro e w' ⟨rfl, hx1⟩; rw [T2.out]))
          go_ret
          exact ⟨by rw [← He.out]; rfl, (by refine x'z ?_; repeat (with_reducible (first | exact x'a _ _ | exact x'b _ | exact x'c (by assumption) | refine x'd ?_ (by assumption) | refine x'e ?_ _ | refine x'f ?_ _ | refine x'g ?_ | refine x'h ?_ ?_ _ | refine x'i ?_ _ | refine x'j ?_ | refine x'k ?_ _ | refine x'l ?_ _ _ | refine x'm ?_ | assumption | (refine x'n ?_; omega) | omega)))⟩
        | false =>
          go_wp2_with (first
            | (go_at_call 121; refine (within_any _ _ _ _).mono ?_; rintro e w' ⟨rfl, rfl⟩; rw [T1.out])
            | (go_at_call 153; refine (hasInt_n HP.out (by omega) hp).mono ?_; rintro e w' ⟨rfl, hx1⟩; rw [T2.out]))
          exact ⟨⟨k + 1, by go_num, by omega, by simpa using He.out, (by refine x'z ?_; repeat (with_reducible (first | exact x'a _ _ | exact x'b _ | exact x'c (by assumption) | refine x'd ?_ (by assumption) | refine x'e ?_ _ | refine x'f ?_ _ | refine x'g ?_ | refine x'h ?_ ?_ _ | refine x'i ?_ _ | refine x'j ?_ | refine x'k ?_ _ | refine x'l ?_ _ _ | refine x'm ?_ | assumption | (refine x'n ?_; omega) | omega)))⟩, by simp [intOf]; omega⟩
    · have e := Hj.out
      rw [setB_end hlt] at e
      have He := Lib.hid e
      clear e
      go_wp2
      go_ret
      exact ⟨by rw [← He.out]; rfl, hy⟩
set_option maxHeartbeats 400000 in
theorem l7Find_any {A : Option Addr} {c : Nat} {xs : List Int} {n : Int} {w : World} (hx : xs.length ≤ 1000000000) (h1 : RI w A xs) :
    Calls Try.prog 125 #[.slice A xs.length c, .int .i64 n] w fun e w' => e = .returned (.int .i64 (iof 0 n xs)) ∧ ∃ y, w' = ext w y := by
  go_enter Try.func125, Try.ntmps125
  go_wp2
  go_loop [5] (fun i => ∃ k : Nat, i = .int .i64 k ∧ k ≤ xs.length ∧ iof k n (xs.drop k) = iof 0 n xs) (fun i => xs.length - (intOf i).toNat)
  case atStart => exact ⟨0, rfl, by omega, by simp⟩
  case round =>
    obtain ⟨k, rfl, hk, hj⟩ := hrel
    have Hj := Lib.hid hj
    clear hj
    by_cases hlt : k < xs.length
    · obtain ⟨b, o, rfl, hb, hc⟩ := h1.atI hlt
      go_wp2
      · go_ret
        have e := Hj.out
        rw [iof_step hlt, if_pos (by simpa using ‹(xs[k] == n) = true›)] at e
        exact ⟨by rw [← e]; rfl, refl_ext w⟩
      · have e := Hj.out
        rw [iof_step hlt, if_neg (by simpa using ‹(xs[k] == n) = false›)] at e
        exact ⟨⟨k + 1, by go_num, by omega, e⟩, by simp [intOf]; omega⟩
    · go_wp2
      go_ret
      have e := Hj.out
      rw [List.drop_eq_nil_of_le (by omega)] at e
      exact ⟨by rw [← e]; rfl, refl_ext w⟩
end Go.Proofs.Ytfigcfajkilhiaa
