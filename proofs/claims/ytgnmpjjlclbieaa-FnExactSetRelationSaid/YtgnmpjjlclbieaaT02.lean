/- Contracts of functions that the statement reaches. -/
import Derived.Test.YtgnmpjjlclbieaaT01
import Derived.Laws.BytesArg
import Derived.Laws.AppendOwnNone
import Derived.Deep.RegionHeld3
import Derived.StillTail
namespace Go.Proofs.Ytgnmpjjlclbieaa
open Go.RowKit
def letB (b : UInt8) : Bool := decide (97 ≤ b.toNat ∧ b.toNat ≤ 122)
def nameB (s : ByteArray) : Bool := inB s.size 1 4 && (bl s).all letB
theorem letB_t {b : UInt8} (h : letB b = true) : 97 ≤ (b.toNat : Int) ∧ (b.toNat : Int) ≤ 122 := by simp [letB] at h; omega
theorem letB_f {b : UInt8} (h : ¬ letB b = true) : (b.toNat : Int) < 97 ∨ 122 < (b.toNat : Int) := by simp [letB] at h; omega
theorem lets_step {s : ByteArray} {k : Nat} (h : k < s.size) : ((bl s).drop k).all letB = (letB s[k] && ((bl s).drop (k + 1)).all letB) := by
  rw [List.drop_eq_getElem_cons (by rw [bl_length]; exact h), List.all_cons, bl_get s h]
theorem lets_end {s : ByteArray} {k : Nat} (h : ¬ k < s.size) : ((bl s).drop k).all letB = true := by
  rw [List.drop_eq_nil_of_le (by rw [bl_length]; omega)]; rfl
set_option maxHeartbeats 400000 in
theorem isLetters_any {s : ByteArray} {w : World} (hs : s.size ≤ 1000000000) :
    Calls Try.prog 47 #[.string s, .int .i64 4] w fun e w' => e = .returned (.bool (nameB s)) ∧ w = w' := by
  by_cases h1 : s.size < 1
  · have HE := Lib.hid (show nameB s = false by unfold nameB inB; rw [decide_eq_false (by omega), Bool.false_and])
    go_enter Try.func47, Try.ntmps47
    go_wp2
    go_ret
    exact ⟨by rw [HE.out]; rfl, rfl⟩
  · by_cases h2 : 4 < s.size
    · have HE := Lib.hid (show nameB s = false by unfold nameB inB; rw [decide_eq_false (by omega), Bool.false_and])
      go_enter Try.func47, Try.ntmps47
      go_wp2
      go_ret
      exact ⟨by rw [HE.out]; rfl, rfl⟩
    · have HE := Lib.hid (show nameB s = (bl s).all letB by unfold nameB inB; rw [decide_eq_true (by omega), Bool.true_and])
      go_enter Try.func47, Try.ntmps47
      go_wp2
      go_loop [5] (fun i => ∃ k : Nat, i = .int .i64 k ∧ k ≤ s.size ∧ ((bl s).drop k).all letB = nameB s) (fun i => s.size - (intOf i).toNat)
      case atStart => exact ⟨0, rfl, by omega, by rw [HE.out]; simp⟩
      case round =>
        obtain ⟨k, rfl, hk, hj⟩ := hrel
        have Hj := Lib.hid hj
        clear hj
        by_cases hlt : k < s.size
        · have e := Hj.out
          rw [lets_step hlt] at e
          by_cases hl : letB s[k] = true
          · obtain ⟨q1, q2⟩ := letB_t hl
            rw [hl, Bool.true_and] at e
            have He := Lib.hid e
            clear e hl
            go_wp2
            exact ⟨⟨k + 1, by go_num, by omega, He.out⟩, by simp [intOf]; omega⟩
          · rw [show letB s[k] = false by simpa using hl, Bool.false_and] at e
            have He := Lib.hid e
            rcases letB_f hl with q | q
            all_goals
              clear e hl
              go_wp2
              go_ret
              exact ⟨by rw [← He.out]; rfl, rfl⟩
        · have e := Hj.out
          rw [lets_end hlt] at e
          have He := Lib.hid e
          clear e
          go_wp2
          go_ret
          exact ⟨by rw [← He.out]; rfl, rfl⟩
theorem IsValidName_any {s : ByteArray} {w : World} (hs : s.size ≤ 1000000000) :
    Calls Try.prog 36 #[.string s] w fun e w' => e = .returned (.bool (nameB s)) ∧ w = w' := by
  go_enter Try.func36, Try.ntmps36
  go_wp2_with (go_at_call 47; refine (isLetters_any hs).mono ?_; rintro e w' ⟨rfl, rfl⟩)
  go_ret
  exact ⟨rfl, rfl⟩
set_option maxHeartbeats 400000 in
theorem specIsValidName_any {s : ByteArray} {w : World} (hs : s.size ≤ 1000000000) :
    Calls Try.prog 31 #[.string s] w fun e w' => e = .returned (.bool (nameB s)) ∧ w = w' := by
  go_enter Try.func31, Try.ntmps31
  go_wp2
  go_loop [3] (fun i => ∃ k : Nat, i = .int .i64 k ∧ k ≤ s.size ∧ ((bl s).drop k).all letB = (bl s).all letB) (fun i => s.size - (intOf i).toNat)
  case atStart => exact ⟨0, rfl, by omega, by simp⟩
  case round =>
    obtain ⟨k, rfl, hk, hj⟩ := hrel
    have Hj := Lib.hid hj
    clear hj
    by_cases hlt : k < s.size
    · have e := Hj.out
      rw [lets_step hlt] at e
      by_cases hl : letB s[k] = true
      · obtain ⟨q1, q2⟩ := letB_t hl
        rw [hl, Bool.true_and] at e
        have He := Lib.hid e
        clear e hl
        go_wp2
        exact ⟨⟨k + 1, by go_num, by omega, He.out⟩, by simp [intOf]; omega⟩
      · rw [show letB s[k] = false by simpa using hl, Bool.false_and] at e
        have He := Lib.hid (show nameB s = false by unfold nameB; rw [← e, Bool.and_false])
        rcases letB_f hl with q | q
        all_goals
          clear e hl
          go_wp2
          go_ret
          exact ⟨by rw [He.out]; rfl, rfl⟩
    · have e := Hj.out
      rw [lets_end hlt] at e
      have He := Lib.hid (show nameB s = inB s.size 1 4 by unfold nameB; rw [← e, Bool.and_true])
      clear e
      go_wp2_with (go_at_call 44; refine (l1In_any _ _ _ _).mono ?_; rintro e w' ⟨rfl, rfl⟩)
      go_ret
      exact ⟨by rw [He.out]; rfl, rfl⟩
end Go.Proofs.Ytgnmpjjlclbieaa
namespace Go.Proofs.Ytgnmpjjlclbieaa
open Go.RowKit
abbrev Td := ByteArray × Rd
abbrev Dbd := List Td
def sLt (a b : ByteArray) : Bool := Op.bytesLess a.toList b.toList
theorem bl_irr : ∀ l : List UInt8, Op.bytesLess l l = false
  | [] => rfl
  | a :: l => by simp [Op.bytesLess, bl_irr l]
theorem bl_trans : ∀ {a b c : List UInt8}, Op.bytesLess a b = true → Op.bytesLess b c = true → Op.bytesLess a c = true
  | _, [], _, h, _ => by simp [Op.bytesLess] at h
  | _, _ :: _, [], _, k => by simp [Op.bytesLess] at k
  | [], _ :: _, _ :: _, _, _ => by simp [Op.bytesLess]
  | a :: x, b :: y, c :: z, h, k => by
    simp only [Op.bytesLess, Bool.or_eq_true, decide_eq_true_eq, Bool.and_eq_true, beq_iff_eq] at h k ⊢
    rcases h with h | ⟨rfl, h⟩
    · rcases k with k | ⟨rfl, k⟩
      · exact .inl (UInt8.lt_trans h k)
      · exact .inl h
    · rcases k with k | ⟨rfl, k⟩
      · exact .inl k
      · exact .inr ⟨rfl, bl_trans h k⟩
theorem bl_tot : ∀ {a b : List UInt8}, Op.bytesLess a b = false → Op.bytesLess b a = false → a = b
  | [], [], _, _ => rfl
  | [], _ :: _, h, _ => by simp [Op.bytesLess] at h
  | _ :: _, [], _, h => by simp [Op.bytesLess] at h
  | a :: x, b :: y, h, k => by
    simp only [Op.bytesLess, Bool.or_eq_false_iff, decide_eq_false_iff_not, Bool.and_eq_false_iff, beq_eq_false_iff_ne] at h k
    have e : a = b := by
      apply UInt8.toNat_inj.1
      have h1 := h.1
      have k1 := k.1
      rw [UInt8.lt_iff_toNat_lt] at h1 k1
      omega
    subst e
    rw [bl_tot (a := x) (b := y)]
    · rcases h.2 with h | h
      · exact absurd rfl h
      · exact h
    · rcases k.2 with h | h
      · exact absurd rfl h
      · exact h
theorem ba_toList_inj {s t : ByteArray} (e : s.toList = t.toList) : s = t := by
  rw [ByteArray.toList_eq, ByteArray.toList_eq] at e
  exact Go.WideShapes.bytes_inj e
theorem sLt_irr (a : ByteArray) : sLt a a = false := bl_irr _
theorem sLt_trans {a b c : ByteArray} (h : sLt a b = true) (k : sLt b c = true) : sLt a c = true := bl_trans h k
theorem sLt_tot {a b : ByteArray} (h : sLt a b = false) (k : sLt b a = false) : a = b := ba_toList_inj (bl_tot h k)
theorem sLt_ne {a b : ByteArray} (h : sLt a b = true) : a ≠ b := by rintro rfl; rw [sLt_irr] at h; cases h
def zT : Td := (⟨#[]⟩, 0, [])
def tOk (d : Dbd) (i : Nat) : Bool := nameB (d.getD i zT).1 && (decide (i = 0) || sLt (d.getD (i - 1) zT).1 (d.getD i zT).1) && rowsB (d.getD i zT).2.1 (d.getD i zT).2.2 && decide (1 ≤ (d.getD i zT).2.1) && decide ((d.getD i zT).2.2.length ≤ 16)
def dbB (d : Dbd) : Bool := decide (d.length ≤ 6) && allN (tOk d) d.length 0
structure TOk (t : Td) : Prop where
  nm : nameB t.1 = true
  rel : rowsB t.2.1 t.2.2 = true
  ar : 1 ≤ t.2.1
  cnt : t.2.2.length ≤ 16
def AscT (d : Dbd) : Prop := d.Pairwise fun x y => sLt x.1 y.1 = true
theorem dbB_iff {d : Dbd} : dbB d = true ↔ d.length ≤ 6 ∧ (∀ t ∈ d, TOk t) ∧ AscT d := by
  unfold dbB
  rw [Bool.and_eq_true, decide_eq_true_eq, allN_true]
  refine and_congr_right fun _ => ?_
  constructor
  · intro h
    refine ⟨fun t ht => ?_, ?_⟩
    · obtain ⟨i, hi, rfl⟩ := List.getElem_of_mem ht
      have := h i (by omega) (by omega)
      unfold tOk at this
      rw [getDl _ _ hi] at this
      simp only [Bool.and_eq_true, decide_eq_true_eq] at this
      exact ⟨this.1.1.1.1, this.1.1.2, this.1.2, this.2⟩
    · have hn : ∀ i (h : i + 1 < d.length), sLt d[i].1 d[i + 1].1 = true := fun i hi => by
        have := h (i + 1) (by omega) (by omega)
        unfold tOk at this
        rw [getDl _ _ hi, show i + 1 - 1 = i by omega, getDl _ _ (show i < d.length by omega)] at this
        simp only [Bool.and_eq_true, Bool.or_eq_true, decide_eq_true_eq] at this
        rcases this.1.1.1.2 with k | k
        · omega
        · exact k
      unfold AscT
      rw [List.pairwise_iff_getElem]
      intro i j hi hj hij
      obtain ⟨e, rfl⟩ : ∃ e, j = i + 1 + e := ⟨j - i - 1, by omega⟩
      induction e with
      | zero => exact hn i hj
      | succ e ih => exact sLt_trans (ih (by omega) (by omega)) (hn (i + 1 + e) hj)
  · rintro ⟨h1, h2⟩ i _ hi
    rw [Nat.zero_add] at hi
    unfold tOk
    have h3 := h1 _ (List.getElem_mem hi)
    rw [getDl _ _ hi]
    simp only [Bool.and_eq_true, decide_eq_true_eq, Bool.or_eq_true]
    refine ⟨⟨⟨⟨h3.nm, ?_⟩, h3.rel⟩, h3.ar⟩, h3.cnt⟩
    rcases Nat.eq_zero_or_pos i with h4 | h4
    · exact .inl h4
    · right
      rw [getDl _ _ (show i - 1 < d.length by omega)]
      exact List.pairwise_iff_getElem.1 h2 (i - 1) i (by omega) hi (by omega)
def insT (name : ByteArray) (r : Rd) : Dbd → Dbd
  | [] => [(name, r)]
  | t :: d => if sLt t.1 name = true then t :: insT name r d else if t.1 = name then (name, r) :: d else (name, r) :: t :: d
def setD (d : Dbd) (name : ByteArray) (r : Rd) : Dbd × Bool := if dbB d = true ∧ dbB (insT name r d) = true then (insT name r d, true) else (d, false)
def sIns (name : ByteArray) (r : Rd) : Bool → Dbd → Dbd
  | put, [] => if put = true then [] else [(name, r)]
  | put, t :: d => (if put = false ∧ sLt t.1 name = false then [(name, r)] else []) ++ (if t.1 = name then [] else [t]) ++ sIns name r (put || !sLt t.1 name) d
theorem sIns_put {name : ByteArray} {r : Rd} : ∀ {d : Dbd}, (∀ t ∈ d, sLt name t.1 = true) → sIns name r true d = d
  | [], _ => by simp [sIns]
  | t :: d, h => by
    rw [sIns, Bool.true_or, sIns_put (d := d) (fun u hu => h u (by simp [hu])), if_neg (by simp), if_neg (fun e => by have := h t (by simp); rw [e, sLt_irr] at this; cases this)]
    rfl
theorem sIns_eq {name : ByteArray} {r : Rd} : ∀ {d : Dbd}, AscT d → sIns name r false d = insT name r d
  | [], _ => by simp [sIns, insT]
  | t :: d, h => by
    unfold AscT at h
    rw [List.pairwise_cons] at h
    rw [sIns, insT]
    by_cases h1 : sLt t.1 name = true
    · rw [if_neg (by simp [h1]), if_pos h1, if_neg (sLt_ne h1), h1]
      rw [show (false || !true) = false from rfl, sIns_eq h.2]
      rfl
    · have h1' : sLt t.1 name = false := by simpa using h1
      rw [if_pos ⟨rfl, h1'⟩, if_neg h1, h1']
      rw [show (false || !false) = true from rfl]
      by_cases h2 : t.1 = name
      · rw [if_pos h2, if_pos h2, sIns_put (fun u hu => h2 ▸ h.1 u hu)]
        rfl
      · rw [if_neg h2, if_neg h2]
        have h3 : sLt name t.1 = true := by
          cases k : sLt name t.1 with
          | true => rfl
          | false => exact absurd (sLt_tot h1' k) h2
        rw [sIns_put (fun u hu => sLt_trans h3 (h.1 u hu))]
        rfl
end Go.Proofs.Ytgnmpjjlclbieaa
namespace Go.Proofs.Ytgnmpjjlclbieaa
open Go.RowKit
theorem cellW {w wr : World} {b o : Nat} {u : Value} (hy : ∃ y, wr = ext w y) (hb : b < w.heap.size) (h : w.cell? ⟨b, o, none⟩ = some u) : wr.cell? ⟨b, o, none⟩ = some u := by
  obtain ⟨y, rfl⟩ := hy
  rw [cell_ext hb]; exact h
theorem ltW {w wr : World} {b : Nat} (hy : ∃ y, wr = ext w y) (hb : b < w.heap.size) : b < wr.heap.size := Nat.lt_of_lt_of_le hb (size_of_ext hy)
end Go.Proofs.Ytgnmpjjlclbieaa
namespace Go.Proofs.Ytgnmpjjlclbieaa
open Go.RowKit
def vU : VE UInt8 := fun _ c b => c = [.int .u8 b.toNat]
def sU : SE UInt8 := fun _ c b F => c = [.int .u8 b.toNat] ∧ F = []
instance : VMono vU := ⟨fun h => h⟩
instance : SMono sU := ⟨fun h b hb => by rw [h.2] at hb; simp at hb, fun h _ => h⟩
instance : SPlain sU := ⟨fun h => h.2⟩
theorem addr_add (b o j : Nat) : (⟨b, o, none⟩ : Addr).add j = ⟨b, o + j, none⟩ := by
  unfold Addr.add
  split
  · rename_i h; subst h; rfl
  · rfl
theorem RV.cells {α : Type} {size : Nat} {V : VE α} {E : SE α} {w : World} (hVE : ∀ c d, V w c d → E w c d []) (h1 : ∀ c d, V w c d → ∀ u ∈ c, u.oneCell' = true) {b : Nat} :
    ∀ (es : List α) (o : Nat), (∀ j (h : j < es.length), ∃ c : List Value, c.length = size ∧ (∀ i (hi : i < c.length), w.cell? ⟨b, o + j * size + i, none⟩ = some c[i]) ∧ V w c es[j]) →
    ∃ cs : List Value, (∀ j u, cs[j]? = some u → w.cell? ((⟨b, o, none⟩ : Addr).add j) = some u) ∧ elems size E w cs es [] ∧ ∀ u ∈ cs, u.oneCell' = true
  | [], _, _ => ⟨[], by simp, ⟨rfl, rfl⟩, by simp⟩
  | e :: es, o, h => by
    obtain ⟨c, hc, hr, he⟩ := h 0 (by simp)
    obtain ⟨cs, k1, k2, k3⟩ := RV.cells hVE h1 es (o + size) (fun j hj => by
      obtain ⟨c, hc, hr, he⟩ := h (j + 1) (by simpa using hj)
      refine ⟨c, hc, fun i hi => ?_, by simpa using he⟩
      rw [← hr i hi]
      congr 2
      rw [Nat.add_mul]; omega)
    refine ⟨c ++ cs, fun j u hj => ?_, ⟨c, cs, [], [], rfl, hc, hVE _ _ he, k2, rfl⟩, fun u hu => ?_⟩
    · by_cases hlt : j < c.length
      · rw [List.getElem?_append_left hlt, List.getElem?_eq_getElem hlt] at hj
        injection hj with hj
        have := hr j hlt
        simp at this
        rw [← hj, ← this, addr_add]
      · rw [List.getElem?_append_right (by omega)] at hj
        have := k1 _ u hj
        rw [← this, addr_add, addr_add]
        congr 2
        omega
    · rcases List.mem_append.1 hu with h | h
      · exact h1 _ _ he u h
      · exact k3 u h
section
variable {P : Program} {w : World}
end
end Go.Proofs.Ytgnmpjjlclbieaa
namespace Go.Proofs.Ytgnmpjjlclbieaa
open Go.RowKit
abbrev At := ByteArray × List Int
theorem conv1m (w : World) (b o cap : Nat) (n : Int) (h : w.cell? ⟨b, o, none⟩ = some (.int .u8 n)) : (convert 72 9 (.slice (some ⟨b, o, none⟩) 1 cap)).run Try.prog w = .ok (.string (bs [UInt8.ofNat n.toNat])) w :=
  run_convert_bytes_arg w _ _ Try.underlying72 Try.underlying5 b o 1 cap [n] rfl (fun i hi => by
    have : i = 0 := by omega
    subst this
    simpa using h) _ Try.underlying9
def mtx (k : Int) : ByteArray := if k ≤ 0 then ⟨#[109, 48]⟩ else bs (109 :: dec k.toNat)
set_option maxHeartbeats 1000000 in
theorem markText_any {k : Int} {w : World} (hk : k ≤ 100000000000) :
    Calls Try.prog 41 #[.int .i64 k] w fun e w' => e = .returned (.string (mtx k)) ∧ ∃ y, w' = ext w y := by
  by_cases h0 : k ≤ 0
  · rw [show mtx k = ⟨#[109, 48]⟩ by unfold mtx; rw [if_pos h0]]
    go_enter Try.func41, Try.ntmps41
    go_wp2
    go_ret
    exact ⟨rfl, refl_ext w⟩
  · rw [show mtx k = bs (109 :: dec k.toNat) by unfold mtx; rw [if_neg h0]]
    have kc := conv1m
    obtain ⟨D, hD⟩ : ∃ D, dec k.toNat = D := ⟨_, rfl⟩
    have hl : D.length ≤ 20 := by rw [← hD]; have := dec_length 19 k.toNat (by omega) (by omega); omega
    rw [hD]
    go_enter Try.func41, Try.ntmps41
    go_wp2
    go_loopw [0, 3] (fun m v wr => ∃ (n : Nat) (acc : List UInt8), m = .int .i64 n ∧ v = .string (bs acc) ∧ n ≤ 100000000000 ∧ (if n = 0 then acc else dec n ++ acc) = D ∧ acc.length ≤ 20 ∧ ∃ y, wr = ext w y) (fun m _ _ => (intOf m).toNat)
    case atStart => exact ⟨k.toNat, [], by congr 1; omega, rfl, by omega, by rw [if_neg (by omega)]; simpa using hD, by simp, refl_ext w⟩
    case round =>
      obtain ⟨n, acc, rfl, rfl, hn, hj, ha, hy⟩ := hrel
      have Hj := Lib.hid hj
      clear hj hD
      by_cases hp : 0 < n
      · have hp' : (0 : Int) < n := by omega
        have hp2 : (0 : Int) ≤ n := by omega
        have hsz : (bs acc).size ≤ 20 := by rw [bs_size]; exact ha
        have hs1 : (bs [48 + UInt8.ofNat (n % 10)]).size = 1 := bs_size _
        have HA := Lib.hid (bs_append [48 + UInt8.ofNat (n % 10)] acc)
        have hjo := Hj.out
        rw [if_neg (by omega : ¬ n = 0)] at hjo
        have hd : UInt8.ofNat (48 + n % 10) = 48 + UInt8.ofNat (n % 10) := UInt8.ofNat_add _ _
        have HE := Lib.hid (show (if n / 10 = 0 then (48 + UInt8.ofNat (n % 10)) :: acc else dec (n / 10) ++ ((48 + UInt8.ofNat (n % 10)) :: acc)) = D by
          rw [← hjo, ← hd]
          by_cases h10 : n < 10
          · rw [if_pos (by omega), dec_small h10, show n % 10 = n by omega]
            rfl
          · rw [if_neg (by omega), dec_big h10]
            simp)
        have hal : acc.length + 1 ≤ D.length := by
          rw [← hjo, List.length_append]
          have := List.length_pos_iff.2 (dec_ne n)
          omega
        clear hjo hd
        go_wp2
        exact ⟨⟨n / 10, (48 + UInt8.ofNat (n % 10)) :: acc, by congr 1, by rw [HA.out]; rfl, by omega, HE.out, by simp only [List.length_cons]; omega, (by refine x'z ?_; repeat (with_reducible (first | exact x'a _ _ | exact x'b _ | exact x'c (by assumption) | refine x'd ?_ (by assumption) | refine x'e ?_ _ | refine x'f ?_ _ | refine x'g ?_ | refine x'h ?_ ?_ _ | refine x'i ?_ _ | refine x'j ?_ | refine x'k ?_ _ | refine x'l ?_ _ _ | refine x'm ?_ | assumption | (refine x'n ?_; omega) | omega)))⟩, by simp [intOf]; omega⟩
      · have e0 : n = 0 := by omega
        subst e0
        have hsz : (bs acc).size ≤ 20 := by rw [bs_size]; exact ha
        have hs1 : (ByteArray.mk #[109]).size = 1 := rfl
        have e := Hj.out
        rw [if_pos rfl] at e
        have He := Lib.hid e
        clear e
        go_wp2
        go_ret
        exact ⟨by rw [← He.out, show (109 :: acc) = [109] ++ acc from rfl, ← bs_append]; rfl, hy⟩
def cAt (x : At) : Nat := x.1.size + x.2.length
def BAts (d : List At) : Prop := d.length ≤ 1048576 ∧ (d.map cAt).sum ≤ 1048576
theorem BAts.each {d : List At} (h : BAts d) : ∀ x ∈ d, x.1.size ≤ 1048576 ∧ x.2.length ≤ 1048576 := fun x hx => by
  have h1 := sum_each (c := cAt) hx
  have h2 := h.2
  unfold cAt at h1 h2
  omega
end Go.Proofs.Ytgnmpjjlclbieaa
namespace Go.Proofs.Ytgnmpjjlclbieaa
open Go.RowKit
abbrev vTb : VE Td := vP 1 vS vRel
abbrev vDb : VE Dbd := vSl 3 vTb
abbrev sTb : SE Td := sP 1 sS sRel
abbrev sDb : SE Dbd := sSl 46 3 sTb
theorem sTb_v {w : World} (c : List Value) (d : Td) (F : List Nat) (h : sTb w c d F) : vTb w c d := sP_v sS_v sRel_v c d F h
theorem sDb_v {w : World} (c : List Value) (d : Dbd) (F : List Nat) (h : sDb w c d F) : vDb w c d := sSl_v sTb_v c d F h
def QTb (x : Td) : Prop := x.1.size ≤ maxLen ∧ QRel x.2
def QDb (d : Dbd) : Prop := d.length ≤ maxLen ∧ ∀ x ∈ d, QTb x
def cTb (x : Td) : Nat := x.1.size + (x.2.2.length + (x.2.2.map List.length).sum)
def BDb (d : Dbd) : Prop := (d.length ≤ 1048576 ∧ (d.map cTb).sum ≤ 1048576) ∧ ∀ x ∈ d, I64 x.2.1
theorem BDb.each {d : Dbd} (h : BDb d) : ∀ x ∈ d, x.1.size ≤ 1048576 ∧ BRel x.2 := fun x hx => by
  have h1 := sum_each (c := cTb) hx
  have h2 := h.1.2
  unfold cTb at h1 h2
  exact ⟨by omega, h.2 x hx, by omega, by omega⟩
def szTb (l : Int) (x : Td) : Int := if l - x.1.size < 0 then -1 else szN szI (l - x.1.size) x.2.2
theorem szN_sub {α : Type} {f : Int → α → Int} {c : α → Nat} (hf : ∀ l x, 0 ≤ f l x → f l x ≤ l - c x) {left : Int} {xs : List α} (h : 0 ≤ szN f left xs) : szN f left xs ≤ left - xs.length - ((xs.map c).sum : Nat) := by
  unfold szN at h ⊢
  split at h
  · omega
  · rename_i h1
    rw [if_neg h1]
    have := szG_each hf xs _ h
    omega
theorem szTb_sub (l : Int) (x : Td) (h : 0 ≤ szTb l x) : szTb l x ≤ l - cTb x := by
  unfold szTb at h ⊢
  split at h
  · omega
  · rename_i h1
    rw [if_neg h1]
    have := szN_sub (c := List.length) szI_sub h
    unfold cTb
    omega
theorem szDb_le {left : Int} {xs : Dbd} (h : 0 ≤ szN szTb left xs) : szN szTb left xs ≤ left := szN_le (fun l x h => by have := szTb_sub l x h; omega) h
theorem szDb_small {left : Int} {xs : Dbd} (hq : QDb xs) (h : 0 ≤ szN szTb left xs) (hl : left ≤ 1048576) : BDb xs := by
  have := szN_small (c := cTb) szTb_sub h
  exact ⟨⟨by omega, by omega⟩, fun x hx => (hq.2 x hx).2.1⟩
theorem RV.atT {w : World} {A : Option Addr} {d : Dbd} {k : Nat} (h : RV 3 vTb w A d) (hk : k < d.length) : ∃ b o A' c', A = some ⟨b, o, none⟩ ∧ b < w.heap.size ∧ w.cell? ⟨b, o + k * 3, none⟩ = some (.string d[k].1) ∧ w.cell? ⟨b, o + k * 3 + 1, none⟩ = some (.int .i64 d[k].2.1) ∧ w.cell? ⟨b, o + k * 3 + 2, none⟩ = some (.slice A' d[k].2.2.length c') ∧ vRel w [.int .i64 d[k].2.1, .slice A' d[k].2.2.length c'] d[k].2 := by
  obtain ⟨b, o, h1, h2, c, hc, hr, c0, c1, e, _, hs, hv⟩ := h.get hk
  obtain ⟨A', c', rfl⟩ := vRel_shape hv
  simp only [vS] at hs
  subst hs e
  exact ⟨b, o, A', c', h1, h2, by simpa using hr 0 (by simp), by simpa using hr 1 (by simp), by simpa using hr 2 (by simp), hv⟩
theorem vDb_get {w : World} {A : Option Addr} {n c : Nat} {d : Dbd} (h : vDb w [.slice A n c] d) : n = d.length ∧ RV 3 vTb w A d ∧ d.length ≤ c := by
  obtain ⟨A', c', e, h⟩ := h
  injection e with e
  injection e with e1 e2 e3
  subst e1
  exact ⟨e2, h, by omega⟩
theorem vDb_shape {w : World} {c : List Value} {d : Dbd} (h : vDb w c d) : ∃ A a, c = [.slice A d.length a] := by
  obtain ⟨A', c', e, h⟩ := h
  exact ⟨_, _, e⟩
set_option maxHeartbeats 1000000 in
theorem szTable_any {s : ByteArray} {A : Option Addr} {c : Nat} {d : Rd} {left : Int} {w : World} (hs : s.size ≤ 9223372036854775807) (hq : QRel d) (h : vRel w [.int .i64 d.1, .slice A d.2.length c] d) (h1 : 0 ≤ left) (h2 : left ≤ 1000000000) :
    Calls Try.prog 29 #[.agg #[.string s, .int .i64 d.1, .slice A d.2.length c], .int .i64 left] w fun e w' => e = .returned (.int .i64 (szTb left (s, d))) ∧ ∃ y, w' = ext w y := by
  by_cases h3 : left - s.size < 0
  · have HE := Lib.hid (show szTb left (s, d) = -1 by unfold szTb; rw [if_pos h3])
    go_enter Try.func29, Try.ntmps29
    go_wp2_with fail
    go_ret
    exact ⟨by rw [HE.out]; rfl, (by refine x'z ?_; repeat (with_reducible (first | exact x'a _ _ | exact x'b _ | exact x'c (by assumption) | refine x'd ?_ (by assumption) | refine x'e ?_ _ | refine x'f ?_ _ | refine x'g ?_ | refine x'h ?_ ?_ _ | refine x'i ?_ _ | refine x'j ?_ | refine x'k ?_ _ | refine x'l ?_ _ _ | refine x'm ?_ | assumption | (refine x'n ?_; omega) | omega)))⟩
  · have HE := Lib.hid (show szTb left (s, d) = szN szI (left - s.size) d.2 by unfold szTb; rw [if_neg h3])
    obtain ⟨l, hl⟩ : ∃ l, szN szI (left - s.size) d.2 = l := ⟨_, rfl⟩
    have HL := Lib.hid hl
    rw [hl] at HE
    by_cases c1 : l < 0
    · have HN := Lib.hid (show l = -1 by rw [← hl] at c1 ⊢; exact szI_neg c1)
      clear hl
      go_enter Try.func29, Try.ntmps29
      go_wp2_with (go_at_call 5; refine (szRelation_d hq (VD.toExt h (by refine x'z ?_; repeat (with_reducible (first | exact x'a _ _ | exact x'b _ | exact x'c (by assumption) | refine x'd ?_ (by assumption) | refine x'e ?_ _ | refine x'f ?_ _ | refine x'g ?_ | refine x'h ?_ ?_ _ | refine x'i ?_ _ | refine x'j ?_ | refine x'k ?_ _ | refine x'l ?_ _ _ | refine x'm ?_ | assumption | (refine x'n ?_; omega) | omega)))) (by omega) (by omega)).mono ?_; rintro e w1 ⟨rfl, y1, rfl⟩; rw [HL.out])
      go_ret
      exact ⟨by rw [HE.out, HN.out]; rfl, (by refine x'z ?_; repeat (with_reducible (first | exact x'a _ _ | exact x'b _ | exact x'c (by assumption) | refine x'd ?_ (by assumption) | refine x'e ?_ _ | refine x'f ?_ _ | refine x'g ?_ | refine x'h ?_ ?_ _ | refine x'i ?_ _ | refine x'j ?_ | refine x'k ?_ _ | refine x'l ?_ _ _ | refine x'm ?_ | assumption | (refine x'n ?_; omega) | omega)))⟩
    · clear hl
      go_enter Try.func29, Try.ntmps29
      go_wp2_with (go_at_call 5; refine (szRelation_d hq (VD.toExt h (by refine x'z ?_; repeat (with_reducible (first | exact x'a _ _ | exact x'b _ | exact x'c (by assumption) | refine x'd ?_ (by assumption) | refine x'e ?_ _ | refine x'f ?_ _ | refine x'g ?_ | refine x'h ?_ ?_ _ | refine x'i ?_ _ | refine x'j ?_ | refine x'k ?_ _ | refine x'l ?_ _ _ | refine x'm ?_ | assumption | (refine x'n ?_; omega) | omega)))) (by omega) (by omega)).mono ?_; rintro e w1 ⟨rfl, y1, rfl⟩; rw [HL.out])
      go_ret
      exact ⟨by rw [HE.out]; rfl, (by refine x'z ?_; repeat (with_reducible (first | exact x'a _ _ | exact x'b _ | exact x'c (by assumption) | refine x'd ?_ (by assumption) | refine x'e ?_ _ | refine x'f ?_ _ | refine x'g ?_ | refine x'h ?_ ?_ _ | refine x'i ?_ _ | refine x'j ?_ | refine x'k ?_ _ | refine x'l ?_ _ _ | refine x'm ?_ | assumption | (refine x'n ?_; omega) | omega)))⟩
set_option maxHeartbeats 1000000 in
theorem szTableS_any {A : Option Addr} {c : Nat} {d : Dbd} {left : Int} {w : World} (hq : QDb d) (h : RV 3 vTb w A d) (h1 : 0 ≤ left) (h2 : left ≤ 1000000000) :
    Calls Try.prog 15 #[.slice A d.length c, .int .i64 left] w fun e w' => e = .returned (.int .i64 (szN szTb left d)) ∧ ∃ y, w' = ext w y := by
  have hn := le_maxLen hq.1
  have Hl := Lib.hid hq.2
  clear hq
  by_cases h0 : left - d.length < 0
  · rw [show szN szTb left d = -1 by unfold szN; rw [if_pos h0]]
    go_enter Try.func15, Try.ntmps15
    go_wp2
    go_ret
    exact ⟨rfl, refl_ext w⟩
  · rw [show szN szTb left d = szG szTb (left - d.length) d by unfold szN; rw [if_neg h0]]
    go_enter Try.func15, Try.ntmps15
    go_wp2
    go_loopw [1, 5] (fun m i wr => ∃ (k : Nat) (l : Int), m = .int .i64 l ∧ i = .int .i64 k ∧ k ≤ d.length ∧ 0 ≤ l ∧ l ≤ left ∧ szG szTb l (d.drop k) = szG szTb (left - d.length) d ∧ ∃ y, wr = ext w y) (fun _ i _ => d.length - (intOf i).toNat)
    case atStart => exact ⟨0, left - d.length, rfl, rfl, by omega, by omega, by omega, by simp, refl_ext w⟩
    case round =>
      obtain ⟨k, l, rfl, rfl, hk, hl0, hl1, hj, hy⟩ := hrel
      have Hj := Lib.hid hj
      clear hj
      by_cases hlt : k < d.length
      · obtain ⟨b, o, A', c', rfl, hb, hc, hc1, hc2, hv⟩ := (h.toExt hy).atT hlt
        have hle := Hl.out d[k] (List.getElem_mem hlt)
        have hle1 := le_maxLen hle.1
        have hle2 := hle.2
        clear hle
        by_cases hs : 0 ≤ szTb l d[k]
        · have e := Hj.out
          rw [szG_step hlt hs] at e
          have he := szTb_sub l d[k] hs
          obtain ⟨r, hr⟩ : ∃ r, szTb l d[k] = r := ⟨_, rfl⟩
          rw [hr] at e hs he
          have He := Lib.hid e
          have Hr := Lib.hid hr
          clear e hr
          go_wp2_with (go_at_call 29; refine (szTable_any hle1 hle2 hv (by omega) (by omega)).mono ?_; rintro e w' ⟨rfl, hx9⟩; rw [show szTb l (d[k].1, d[k].2) = r from Hr.out])
          exact ⟨⟨k + 1, r, rfl, by go_num, by omega, by omega, by omega, He.out, (by refine x'z ?_; repeat (with_reducible (first | exact x'a _ _ | exact x'b _ | exact x'c (by assumption) | refine x'd ?_ (by assumption) | refine x'e ?_ _ | refine x'f ?_ _ | refine x'g ?_ | refine x'h ?_ ?_ _ | refine x'i ?_ _ | refine x'j ?_ | refine x'k ?_ _ | refine x'l ?_ _ _ | refine x'm ?_ | assumption | (refine x'n ?_; omega) | omega)))⟩, by simp [intOf]; omega⟩
        · have hs : szTb l d[k] < 0 := by omega
          have e := Hj.out
          rw [szG_stop hlt hs] at e
          obtain ⟨r, hr⟩ : ∃ r, szTb l d[k] = r := ⟨_, rfl⟩
          rw [hr] at hs
          have He := Lib.hid e
          have Hr := Lib.hid hr
          clear e hr
          go_wp2_with (go_at_call 29; refine (szTable_any hle1 hle2 hv (by omega) (by omega)).mono ?_; rintro e w' ⟨rfl, hx9⟩; rw [show szTb l (d[k].1, d[k].2) = r from Hr.out])
          go_ret
          exact ⟨by rw [← He.out]; rfl, (by refine x'z ?_; repeat (with_reducible (first | exact x'a _ _ | exact x'b _ | exact x'c (by assumption) | refine x'd ?_ (by assumption) | refine x'e ?_ _ | refine x'f ?_ _ | refine x'g ?_ | refine x'h ?_ ?_ _ | refine x'i ?_ _ | refine x'j ?_ | refine x'k ?_ _ | refine x'l ?_ _ _ | refine x'm ?_ | assumption | (refine x'n ?_; omega) | omega)))⟩
      · go_wp2
        go_ret
        have e := Hj.out
        rw [szG_end hlt] at e
        exact ⟨by rw [← e]; rfl, hy⟩
theorem szDatabase_d {A : Option Addr} {c : Nat} {d : Dbd} {left : Int} {w : World} (hq : QDb d) (h : vDb w [.slice A d.length c] d) (h1 : 0 ≤ left) (h2 : left ≤ 1000000000) :
    Calls Try.prog 4 #[.agg #[.slice A d.length c], .int .i64 left] w fun e w' => e = .returned (.int .i64 (szN szTb left d)) ∧ ∃ y, w' = ext w y := by
  have hv := (vDb_get h).2.1
  obtain ⟨l, hl⟩ : ∃ l, szN szTb left d = l := ⟨_, rfl⟩
  have HL := Lib.hid hl
  by_cases c1 : l < 0
  · have HN := Lib.hid (show l = -1 by
      rw [← hl] at c1 ⊢
      unfold szN at c1 ⊢
      split
      · rfl
      · rename_i h3
        rw [if_neg h3] at c1
        exact szG_neg _ _ (by omega) c1)
    clear hl h
    go_enter Try.func4, Try.ntmps4
    go_wp2_with (go_at_call 15; refine (szTableS_any hq (hv.toExt (by refine x'z ?_; repeat (with_reducible (first | exact x'a _ _ | exact x'b _ | exact x'c (by assumption) | refine x'd ?_ (by assumption) | refine x'e ?_ _ | refine x'f ?_ _ | refine x'g ?_ | refine x'h ?_ ?_ _ | refine x'i ?_ _ | refine x'j ?_ | refine x'k ?_ _ | refine x'l ?_ _ _ | refine x'm ?_ | assumption | (refine x'n ?_; omega) | omega)))) h1 h2).mono ?_; rintro e w1 ⟨rfl, y1, rfl⟩; rw [HL.out])
    go_ret
    exact ⟨by rw [HL.out, HN.out]; rfl, (by refine x'z ?_; repeat (with_reducible (first | exact x'a _ _ | exact x'b _ | exact x'c (by assumption) | refine x'd ?_ (by assumption) | refine x'e ?_ _ | refine x'f ?_ _ | refine x'g ?_ | refine x'h ?_ ?_ _ | refine x'i ?_ _ | refine x'j ?_ | refine x'k ?_ _ | refine x'l ?_ _ _ | refine x'm ?_ | assumption | (refine x'n ?_; omega) | omega)))⟩
  · clear hl h
    go_enter Try.func4, Try.ntmps4
    go_wp2_with (go_at_call 15; refine (szTableS_any hq (hv.toExt (by refine x'z ?_; repeat (with_reducible (first | exact x'a _ _ | exact x'b _ | exact x'c (by assumption) | refine x'd ?_ (by assumption) | refine x'e ?_ _ | refine x'f ?_ _ | refine x'g ?_ | refine x'h ?_ ?_ _ | refine x'i ?_ _ | refine x'j ?_ | refine x'k ?_ _ | refine x'l ?_ _ _ | refine x'm ?_ | assumption | (refine x'n ?_; omega) | omega)))) h1 h2).mono ?_; rintro e w1 ⟨rfl, y1, rfl⟩; rw [HL.out])
    go_ret
    exact ⟨by rw [HL.out]; rfl, (by refine x'z ?_; repeat (with_reducible (first | exact x'a _ _ | exact x'b _ | exact x'c (by assumption) | refine x'd ?_ (by assumption) | refine x'e ?_ _ | refine x'f ?_ _ | refine x'g ?_ | refine x'h ?_ ?_ _ | refine x'i ?_ _ | refine x'j ?_ | refine x'k ?_ _ | refine x'l ?_ _ _ | refine x'm ?_ | assumption | (refine x'n ?_; omega) | omega)))⟩
theorem sTb_form {w : World} {v0 v1 v2 : Value} {d : Td} {F : List Nat} (h : sTb w [v0, v1, v2] d F) : ∃ A c, v0 = .string d.1 ∧ v1 = .int .i64 d.2.1 ∧ v2 = .slice A d.2.2.length c ∧ sRel w [v1, v2] d.2 F := by
  obtain ⟨c0, c1, F0, F1, e0, h0, ⟨h1, f0⟩, h3, e4⟩ := h
  subst h1 f0 e4
  simp only [List.cons_append, List.nil_append, List.cons.injEq] at e0
  obtain ⟨rfl, rfl⟩ := e0
  obtain ⟨A, c, rfl, rfl, _⟩ := sRel_form h3
  exact ⟨A, c, rfl, rfl, rfl, by simpa using h3⟩
theorem sTb_mk {w : World} {s : ByteArray} {v1 v2 : Value} {r : Rd} {F : List Nat} (h : sRel w [v1, v2] r F) : sTb w [.string s, v1, v2] (s, r) F := by
  have := sP_mk (E0 := sS) (E1 := sRel) (w := w) (u := .string s) (d := (s, r)) ⟨rfl, rfl⟩ h
  simpa using this
theorem sTb_list {w : World} {c : List Value} {d : Td} {F : List Nat} (h : sTb w c d F) : ∃ A n, c = [.string d.1, .int .i64 d.2.1, .slice A d.2.2.length n] := by
  obtain ⟨c0, c1, F0, F1, e0, h0, ⟨h1, f0⟩, h3, e4⟩ := h
  subst h1
  obtain ⟨A, n, rfl⟩ := vRel_shape (sRel_v _ _ _ h3)
  exact ⟨A, n, e0⟩
set_option maxHeartbeats 1000000 in
theorem toTable_any {s : ByteArray} {A : Option Addr} {c : Nat} {d : Rd} {w : World} (hb : BRel d) (h : vRel w [.int .i64 d.1, .slice A d.2.length c] d) :
    Calls Try.prog 34 #[.agg #[.string s, .int .i64 d.1, .slice A d.2.length c]] w fun e w' => ∃ v0 v1 F, e = .returned (.agg #[.string s, v0, v1]) ∧ (∃ y, w' = ext w y) ∧ sRel w' [v0, v1] d F ∧ F.Nodup ∧ ∀ b ∈ F, w.heap.size ≤ b := by
  go_enter Try.func34, Try.ntmps34
  go_upto_region 1 with fail
  refine wp_name ?_
  intro w0 hw0
  have hx0 : ∃ y, w0 = ext w y := by rw [hw0.out]; exact (by refine x'z ?_; repeat (with_reducible (first | exact x'a _ _ | exact x'b _ | exact x'c (by assumption) | refine x'd ?_ (by assumption) | refine x'e ?_ _ | refine x'f ?_ _ | refine x'g ?_ | refine x'h ?_ ?_ _ | refine x'i ?_ _ | refine x'j ?_ | refine x'k ?_ _ | refine x'l ?_ _ _ | refine x'm ?_ | assumption | (refine x'n ?_; omega) | omega)))
  have P0 : BoxAt w0 w.heap.size #[.string s, .int .i64 d.1, .slice A d.2.length c] := by rw [hw0.out]; exact (by repeat (with_reducible (first | assumption | exact BoxAt.new _ _ _ | apply BoxAt.set3 | refine BoxAt.set3' ?_ (by omega) | apply BoxAt.set30 | apply BoxAt.set31 | apply BoxAt.set32 | apply BoxAt.set2 | refine BoxAt.set2' ?_ (by omega) | apply BoxAt.setP0 | apply BoxAt.setP1 | refine BoxAt.setO ?_ (by omega) | refine BoxAt.alloc ?_ _ | refine BoxAt.drew ?_ | refine BoxAt.toExt ?_ (by assumption))))
  have R0 : BoxAt w0 (w.heap.size + 1) #[.string ⟨#[]⟩, .int .i64 0, .slice none 0 0] := by
    rw [hw0.out]
    simpa using BoxAt.new (w.alloc (.cells #[.string s, .int .i64 d.1, .slice A d.2.length c] 57)) #[.string ⟨#[]⟩, .int .i64 0, .slice none 0 0] 46
  obtain ⟨l0, k0, k0', k0'', f0⟩ := box3 P0
  obtain ⟨m0, n0, n0', n0'', g0⟩ := box3 R0
  have hz0 := size_of_ext hx0
  clear hw0
  go_wp2_with (go_at_call 8; refine (toRelation_d hb (VD.toExt h (by refine x'z ?_; repeat (with_reducible (first | exact x'a _ _ | exact x'b _ | exact x'c (by assumption) | refine x'd ?_ (by assumption) | refine x'e ?_ _ | refine x'f ?_ _ | refine x'g ?_ | refine x'h ?_ ?_ _ | refine x'i ?_ _ | refine x'j ?_ | refine x'k ?_ _ | refine x'l ?_ _ _ | refine x'm ?_ | assumption | (refine x'n ?_; omega) | omega))))).mono ?_; rintro e w2 ⟨v2, u2, F2, rfl, hx2, hS2, hN2, hF2⟩; obtain ⟨A2, c2, rfl, rfl, _⟩ := sRel_form hS2; have P2 : BoxAt w2 w.heap.size #[.string s, .int .i64 d.1, .slice A d.2.length c] := (by repeat (with_reducible (first | assumption | exact BoxAt.new _ _ _ | apply BoxAt.set3 | refine BoxAt.set3' ?_ (by omega) | apply BoxAt.set30 | apply BoxAt.set31 | apply BoxAt.set32 | apply BoxAt.set2 | refine BoxAt.set2' ?_ (by omega) | apply BoxAt.setP0 | apply BoxAt.setP1 | refine BoxAt.setO ?_ (by omega) | refine BoxAt.alloc ?_ _ | refine BoxAt.drew ?_ | refine BoxAt.toExt ?_ (by assumption)))); have R2 : BoxAt w2 (w.heap.size + 1) #[.string ⟨#[]⟩, .int .i64 0, .slice none 0 0] := (by repeat (with_reducible (first | assumption | exact BoxAt.new _ _ _ | apply BoxAt.set3 | refine BoxAt.set3' ?_ (by omega) | apply BoxAt.set30 | apply BoxAt.set31 | apply BoxAt.set32 | apply BoxAt.set2 | refine BoxAt.set2' ?_ (by omega) | apply BoxAt.setP0 | apply BoxAt.setP1 | refine BoxAt.setO ?_ (by omega) | refine BoxAt.alloc ?_ _ | refine BoxAt.drew ?_ | refine BoxAt.toExt ?_ (by assumption)))); have O2 : BoxAt w2 w0.heap.size #[.string s, .int .i64 0, .slice none 0 0] := (by repeat (with_reducible (first | assumption | exact BoxAt.new _ _ _ | apply BoxAt.set3 | refine BoxAt.set3' ?_ (by omega) | apply BoxAt.set30 | apply BoxAt.set31 | apply BoxAt.set32 | apply BoxAt.set2 | refine BoxAt.set2' ?_ (by omega) | apply BoxAt.setP0 | apply BoxAt.setP1 | refine BoxAt.setO ?_ (by omega) | refine BoxAt.alloc ?_ _ | refine BoxAt.drew ?_ | refine BoxAt.toExt ?_ (by assumption)))); obtain ⟨l2, k2, k2', k2'', f2⟩ := box3 P2; obtain ⟨m2, n2, n2', n2'', g2⟩ := box3 O2; obtain ⟨o2, p2, p2', p2'', q2'⟩ := box3 R2)
  have hz2 := size_of_ext hx2
  simp only [World.size_alloc] at hz2 hF2
  refine bodyPost_ret (v := .agg #[.string s, .int .i64 d.1, .slice A2 d.2.length c2]) (by simp [results, Try.results34, go_sem, *]) rfl ⟨_, _, F2, rfl, (by refine x'z ?_; repeat (with_reducible (first | exact x'a _ _ | exact x'b _ | exact x'c (by assumption) | refine x'd ?_ (by assumption) | refine x'e ?_ _ | refine x'f ?_ _ | refine x'g ?_ | refine x'h ?_ ?_ _ | refine x'i ?_ _ | refine x'j ?_ | refine x'k ?_ _ | refine x'l ?_ _ _ | refine x'm ?_ | assumption | (refine x'n ?_; omega) | omega))), OD.chg (G := [w0.heap.size, w.heap.size + 1]) hS2 (by repeat (with_reducible (first | exact Chg.refl _ _ | refine Chg.trans0 ?_ (by assumption) | refine Chg.extS ?_ _ | refine Chg.alloc ?_ _ | refine Chg.drew ?_ | refine Chg.setCell ?_ (.inl (by simp)) _))) ?_, hN2, ?_⟩
  · intro b hb h
    have := hF2 b hb
    simp at h
    omega
  · intro b hb
    have := hF2 b hb
    omega
theorem tTb : SlT Try.prog 30 46 3 48 (.agg #[.string ⟨#[]⟩, .int .i64 0, .slice none 0 0]) := ⟨Try.underlying30, by kernel_rfl, rfl, by omega⟩
theorem sDb_form {w : World} {v : Value} {d : Dbd} {F : List Nat} (h : sDb w [v] d F) : ∃ A c, v = .slice A d.length c := by
  obtain ⟨v', e, h⟩ := h
  injection e with e
  subst e
  obtain ⟨A, c, e, _⟩ := h.form
  exact ⟨A, c, e⟩
set_option maxHeartbeats 1000000 in
theorem toTableS_any {A : Option Addr} {c : Nat} {d : Dbd} {w : World} (hb : BDb d) (h1 : RV 3 vTb w A d) :
    Calls Try.prog 19 #[.slice A d.length c] w fun e w' => ∃ v F, e = .returned v ∧ (∃ y, w' = ext w y) ∧ sDb w' [v] d F ∧ F.Nodup ∧ ∀ b ∈ F, w.heap.size ≤ b := by
  have hx := hb.1.1
  have Hl := Lib.hid hb.each
  clear hb
  go_enter Try.func19, Try.ntmps19
  go_wp2_with (at_make; refine wpList_makeF (E := sTb) _ rfl _ _ _ rfl tTb rfl rfl d (by omega) (by omega) ?_; intro w1 hS hx1 hg1)
  go_loopw [4] (fun i wr => ∃ (k : Nat) (F : List Nat), i = .int .i64 k ∧ k ≤ d.length ∧ Fill 46 3 sTb wr (.slice (some ⟨w.heap.size, 0, none⟩) d.length d.length) d.length [.string ⟨#[]⟩, .int .i64 0, .slice none 0 0] d k F ∧ F.Nodup ∧ (∀ b ∈ F, w.heap.size ≤ b) ∧ ∃ y, wr = ext w y) (fun i _ => d.length - (intOf i).toNat)
  case atStart => exact ⟨0, _, rfl, by omega, hS, by simp, by simp, hx1⟩
  case round =>
    obtain ⟨k, F, rfl, hk, hSk, hN, hF, hy⟩ := hrel
    have HF := Lib.hid hF
    have HN := Lib.hid hN
    clear hF hN
    by_cases hlt : k < d.length
    · obtain ⟨b, o, A', c', rfl, hb, hc, hd, hd2, hv⟩ := (h1.toExt hy).atT hlt
      have hle := (Hl.out d[k] (List.getElem_mem hlt)).2
      clear hS hx1
      go_wp2_with (go_at_call 34; refine (toTable_any hle hv).mono ?_; rintro e w2 ⟨v2, u2, F2, rfl, hx2, hS2, hN2, hF2⟩; obtain ⟨A2, c2, rfl, rfl, _⟩ := sRel_form hS2; have HS := Lib.hid (hSk.toExt hx2); have Hc := HS.out.cell (j := k * 3) (by omega); have Hd := HS.out.cell (j := k * 3 + 1) (by omega); have He := HS.out.cell (j := k * 3 + 2) (by omega); obtain ⟨⟨u, hu⟩, hf, hg⟩ := Hc; obtain ⟨⟨u', hu'⟩, hf', _⟩ := Hd; obtain ⟨⟨u'', hu''⟩, hf'', _⟩ := He)
      obtain ⟨h3, h4⟩ := HS.out.put3 hlt rfl (Fk := F2) (sTb_mk hS2) (nodup_more HN.out hN2 hSk.lt hF2)
      exact ⟨⟨k + 1, F ++ F2, by go_num, by omega, h3, nodup_more HN.out hN2 hSk.lt hF2, fun b hb => by
        rcases List.mem_append.1 hb with h | h
        · exact HF.out b h
        · exact Nat.le_trans (size_of_ext hy) (hF2 b h), (h4.isExt (trans_ext hy hx2) (by simp))⟩, by simp [intOf]; omega⟩
    · go_wp2
      go_ret
      exact ⟨_, F, rfl, hy, ⟨_, rfl, hSk.done rfl (by omega)⟩, HN.out, HF.out⟩
theorem bx1 {w : World} {B : Nat} {u : Value} (h : BoxAt w B #[u]) : B < w.heap.size ∧ w.cell? ⟨B, 0, none⟩ = some u ∧ ∀ j, w.frozen? ⟨B, j, none⟩ = false := ⟨h.1, h.2.1 0, h.2.2⟩
theorem BoxAt.set10 {w : World} {B : Nat} {a u : Value} (h : BoxAt w B #[a]) : BoxAt (w.setCell ⟨B, 0, none⟩ u) B #[u] := h.setJ (j := 0) (by simp)
set_option maxHeartbeats 1000000 in
theorem toDatabase_d {A : Option Addr} {c : Nat} {d : Dbd} {w : World} (hb : BDb d) (h : vDb w [.slice A d.length c] d) :
    Calls Try.prog 7 #[.agg #[.slice A d.length c]] w fun e w' => ∃ v F, e = .returned (.agg #[v]) ∧ (∃ y, w' = ext w y) ∧ sDb w' [v] d F ∧ F.Nodup ∧ ∀ b ∈ F, w.heap.size ≤ b := by
  have r1 := (vDb_get h).2.1
  clear h
  go_enter Try.func7, Try.ntmps7
  go_upto_region 1 with fail
  refine wp_name ?_
  intro w0 hw0
  have hx0 : ∃ y, w0 = ext w y := by rw [hw0.out]; exact (by refine x'z ?_; repeat (with_reducible (first | exact x'a _ _ | exact x'b _ | exact x'c (by assumption) | refine x'd ?_ (by assumption) | refine x'e ?_ _ | refine x'f ?_ _ | refine x'g ?_ | refine x'h ?_ ?_ _ | refine x'i ?_ _ | refine x'j ?_ | refine x'k ?_ _ | refine x'l ?_ _ _ | refine x'm ?_ | assumption | (refine x'n ?_; omega) | omega)))
  have P0 : BoxAt w0 w.heap.size #[.slice A d.length c] := by rw [hw0.out]; exact (by repeat (with_reducible (first | assumption | exact BoxAt.new _ _ _ | apply BoxAt.set10 | apply BoxAt.set2 | refine BoxAt.set2' ?_ (by omega) | apply BoxAt.setP0 | apply BoxAt.setP1 | refine BoxAt.setO ?_ (by omega) | refine BoxAt.alloc ?_ _ | refine BoxAt.drew ?_ | refine BoxAt.toExt ?_ (by assumption))))
  have R0 : BoxAt w0 (w.heap.size + 1) #[.slice none 0 0] := by
    rw [hw0.out]
    simpa using BoxAt.new (w.alloc (.cells #[.slice A d.length c] 24)) #[.slice none 0 0] 32
  obtain ⟨l0, k0, f0⟩ := bx1 P0
  obtain ⟨m0, n0, g0⟩ := bx1 R0
  have hz0 := size_of_ext hx0
  clear hw0
  go_wp2_with (go_at_call 19; refine (toTableS_any hb (r1.toExt (by refine x'z ?_; repeat (with_reducible (first | exact x'a _ _ | exact x'b _ | exact x'c (by assumption) | refine x'd ?_ (by assumption) | refine x'e ?_ _ | refine x'f ?_ _ | refine x'g ?_ | refine x'h ?_ ?_ _ | refine x'i ?_ _ | refine x'j ?_ | refine x'k ?_ _ | refine x'l ?_ _ _ | refine x'm ?_ | assumption | (refine x'n ?_; omega) | omega))))).mono ?_; rintro e w2 ⟨v2, F2, rfl, hx2, hS2, hN2, hF2⟩; obtain ⟨A2, c2, rfl⟩ := sDb_form hS2; have R2 : BoxAt w2 (w.heap.size + 1) #[.slice none 0 0] := (by repeat (with_reducible (first | assumption | exact BoxAt.new _ _ _ | apply BoxAt.set10 | apply BoxAt.set2 | refine BoxAt.set2' ?_ (by omega) | apply BoxAt.setP0 | apply BoxAt.setP1 | refine BoxAt.setO ?_ (by omega) | refine BoxAt.alloc ?_ _ | refine BoxAt.drew ?_ | refine BoxAt.toExt ?_ (by assumption)))); have O2 : BoxAt w2 w0.heap.size #[.slice none 0 0] := (by repeat (with_reducible (first | assumption | exact BoxAt.new _ _ _ | apply BoxAt.set10 | apply BoxAt.set2 | refine BoxAt.set2' ?_ (by omega) | apply BoxAt.setP0 | apply BoxAt.setP1 | refine BoxAt.setO ?_ (by omega) | refine BoxAt.alloc ?_ _ | refine BoxAt.drew ?_ | refine BoxAt.toExt ?_ (by assumption)))); obtain ⟨m2, n2, g2⟩ := bx1 O2; obtain ⟨o2, p2, q2'⟩ := bx1 R2)
  have hz2 := size_of_ext hx2
  simp only [World.size_alloc] at hz2 hF2
  refine bodyPost_ret (v := .agg #[.slice A2 d.length c2]) (by simp [results, Try.results7, go_sem, *]) rfl ⟨_, F2, rfl, (by refine x'z ?_; repeat (with_reducible (first | exact x'a _ _ | exact x'b _ | exact x'c (by assumption) | refine x'd ?_ (by assumption) | refine x'e ?_ _ | refine x'f ?_ _ | refine x'g ?_ | refine x'h ?_ ?_ _ | refine x'i ?_ _ | refine x'j ?_ | refine x'k ?_ _ | refine x'l ?_ _ _ | refine x'm ?_ | assumption | (refine x'n ?_; omega) | omega))), OD.chg (G := [w0.heap.size, w.heap.size + 1]) hS2 (by repeat (with_reducible (first | exact Chg.refl _ _ | refine Chg.trans0 ?_ (by assumption) | refine Chg.extS ?_ _ | refine Chg.alloc ?_ _ | refine Chg.drew ?_ | refine Chg.setCell ?_ (.inl (by simp)) _))) ?_, hN2, ?_⟩
  · intro b hb h
    have := hF2 b hb
    simp at h
    omega
  · intro b hb
    have := hF2 b hb
    omega
set_option maxHeartbeats 1000000 in
theorem eqTable_any {s s' : ByteArray} {A A' : Option Addr} {c c' : Nat} {d d' : Rd} {w : World} (hb : BRel d) (h : vRel w [.int .i64 d.1, .slice A d.2.length c] d) (hb' : BRel d') (h' : vRel w [.int .i64 d'.1, .slice A' d'.2.length c'] d') :
    Calls Try.prog 39 #[.agg #[.string s, .int .i64 d.1, .slice A d.2.length c], .agg #[.string s', .int .i64 d'.1, .slice A' d'.2.length c']] w fun e w' => e = .returned (.bool (decide ((s, d) = (s', d')))) ∧ ∃ y, w' = ext w y := by
  by_cases hs : s = s'
  · subst hs
    have HD := Lib.hid (show decide ((s, d) = (s, d')) = decide (d = d') by simp)
    obtain ⟨t, ht⟩ : ∃ t, decide (d = d') = t := ⟨_, rfl⟩
    have HT := Lib.hid ht
    clear ht
    cases t
    all_goals
      go_enter Try.func39, Try.ntmps39
      go_wp2_with (go_at_call 11; refine (eqRelation_d hb (VD.toExt h (by refine x'z ?_; repeat (with_reducible (first | exact x'a _ _ | exact x'b _ | exact x'c (by assumption) | refine x'd ?_ (by assumption) | refine x'e ?_ _ | refine x'f ?_ _ | refine x'g ?_ | refine x'h ?_ ?_ _ | refine x'i ?_ _ | refine x'j ?_ | refine x'k ?_ _ | refine x'l ?_ _ _ | refine x'm ?_ | assumption | (refine x'n ?_; omega) | omega)))) hb' (VD.toExt h' (by refine x'z ?_; repeat (with_reducible (first | exact x'a _ _ | exact x'b _ | exact x'c (by assumption) | refine x'd ?_ (by assumption) | refine x'e ?_ _ | refine x'f ?_ _ | refine x'g ?_ | refine x'h ?_ ?_ _ | refine x'i ?_ _ | refine x'j ?_ | refine x'k ?_ _ | refine x'l ?_ _ _ | refine x'm ?_ | assumption | (refine x'n ?_; omega) | omega))))).mono ?_; rintro e w' ⟨rfl, y, rfl⟩; rw [HT.out])
      go_ret
      exact ⟨by rw [HD.out, HT.out]; rfl, (by refine x'z ?_; repeat (with_reducible (first | exact x'a _ _ | exact x'b _ | exact x'c (by assumption) | refine x'd ?_ (by assumption) | refine x'e ?_ _ | refine x'f ?_ _ | refine x'g ?_ | refine x'h ?_ ?_ _ | refine x'i ?_ _ | refine x'j ?_ | refine x'k ?_ _ | refine x'l ?_ _ _ | refine x'm ?_ | assumption | (refine x'n ?_; omega) | omega)))⟩
  · have hb : (s.toList == s'.toList) = false := by rw [str_beq, decide_eq_false hs]
    go_enter Try.func39, Try.ntmps39
    go_wp2_with fail
    go_ret
    exact ⟨by rw [decide_eq_false (by simp [hs])]; rfl, (by refine x'z ?_; repeat (with_reducible (first | exact x'a _ _ | exact x'b _ | exact x'c (by assumption) | refine x'd ?_ (by assumption) | refine x'e ?_ _ | refine x'f ?_ _ | refine x'g ?_ | refine x'h ?_ ?_ _ | refine x'i ?_ _ | refine x'j ?_ | refine x'k ?_ _ | refine x'l ?_ _ _ | refine x'm ?_ | assumption | (refine x'n ?_; omega) | omega)))⟩
set_option maxHeartbeats 1000000 in
theorem eqTableS_any {A A' : Option Addr} {c c' : Nat} {d d' : Dbd} {w : World} (hb : BDb d) (h1 : RV 3 vTb w A d) (hb' : BDb d') (h2 : RV 3 vTb w A' d') :
    Calls Try.prog 24 #[.slice A d.length c, .slice A' d'.length c'] w fun e w' => e = .returned (.bool (decide (d = d'))) ∧ ∃ y, w' = ext w y := by
  have hx := hb.1.1
  have hy := hb'.1.1
  have Hxl := Lib.hid hb.each
  have Hyl := Lib.hid hb'.each
  clear hb hb'
  by_cases hl : d.length = d'.length
  · have hn : ((d.length : Int) != (d'.length : Int)) = false := by simp [hl]
    have hl2 : d'.length ≤ d.length := by omega
    have hl3 : d.length ≤ d'.length := by omega
    have HL := Lib.hid hl
    clear hl
    go_enter Try.func24, Try.ntmps24
    go_wp2
    go_loopw [5] (fun i wr => ∃ k : Nat, i = .int .i64 k ∧ k ≤ d.length ∧ d.take k = d'.take k ∧ ∃ y, wr = ext w y) (fun i _ => d.length - (intOf i).toNat)
    case atStart => exact ⟨0, rfl, by omega, by simp, refl_ext w⟩
    case round =>
      obtain ⟨k, rfl, hk, ht, hw⟩ := hrel
      have Ht := Lib.hid ht
      clear ht
      by_cases hlt : k < d.length
      · have hlt2 : k < d'.length := by omega
        obtain ⟨b, o, A1, c1, rfl, hb, hc, hd, hd2, hv⟩ := (h1.toExt hw).atT hlt
        obtain ⟨b', o', A2, c2, rfl, hb', hc', hd', hd2', hv'⟩ := (h2.toExt hw).atT hlt2
        have q1 := (Hxl.out d[k] (List.getElem_mem hlt)).2
        have q2 := (Hyl.out d'[k] (List.getElem_mem hlt2)).2
        by_cases he : d[k] = d'[k]
        · have He := Lib.hid he
          have Hd := Lib.hid (show decide ((d[k].1, d[k].2) = (d'[k].1, d'[k].2)) = true by simp [he])
          clear he
          go_wp2
          refine wp_region_ext (by kernel_rfl) (by kernel_rfl) ?_
          repeat (go_big_quiet_step ((go_at_call 39; exact quietEb (eqTable_any q1 (VMono.ext hv) q2 (VMono.ext hv')) Hd.out)))
          refine wpQuiet_nil ?_
          rintro _ ⟨z, rfl⟩
          go_wp2
          exact ⟨⟨k + 1, by go_num, by omega, take_snoc_eq _ _ Ht.out He.out, (by refine x'z ?_; repeat (with_reducible (first | exact x'a _ _ | exact x'b _ | exact x'c (by assumption) | refine x'd ?_ (by assumption) | refine x'e ?_ _ | refine x'f ?_ _ | refine x'g ?_ | refine x'h ?_ ?_ _ | refine x'i ?_ _ | refine x'j ?_ | refine x'k ?_ _ | refine x'l ?_ _ _ | refine x'm ?_ | assumption | (refine x'n ?_; omega) | omega)))⟩, by simp [intOf]; omega⟩
        · have He := Lib.hid he
          have Hd := Lib.hid (show decide ((d[k].1, d[k].2) = (d'[k].1, d'[k].2)) = false from decide_eq_false he)
          clear he
          go_wp2
          refine wp_region_ext (by kernel_rfl) (by kernel_rfl) ?_
          repeat (go_big_quiet_step ((go_at_call 39; exact quietEb (eqTable_any q1 (VMono.ext hv) q2 (VMono.ext hv')) Hd.out)))
          refine wpQuiet_nil ?_
          rintro _ ⟨z, rfl⟩
          go_wp2
          go_ret
          exact ⟨by rw [decide_eq_false (ne_of_at hlt hlt2 He.out)]; rfl, (by refine x'z ?_; repeat (with_reducible (first | exact x'a _ _ | exact x'b _ | exact x'c (by assumption) | refine x'd ?_ (by assumption) | refine x'e ?_ _ | refine x'f ?_ _ | refine x'g ?_ | refine x'h ?_ ?_ _ | refine x'i ?_ _ | refine x'j ?_ | refine x'k ?_ _ | refine x'l ?_ _ _ | refine x'm ?_ | assumption | (refine x'n ?_; omega) | omega)))⟩
      · go_wp2
        go_ret
        exact ⟨by rw [decide_eq_true (all_eq HL.out hlt Ht.out)]; rfl, hw⟩
  · have hn : ((d.length : Int) != (d'.length : Int)) = true := by simp; omega
    go_enter Try.func24, Try.ntmps24
    go_wp2
    go_ret
    exact ⟨by rw [decide_eq_false (by rintro rfl; exact hl rfl)]; rfl, refl_ext w⟩
set_option maxHeartbeats 1000000 in
theorem eqDatabase_d {A A' : Option Addr} {c c' : Nat} {d d' : Dbd} {w : World} (hb : BDb d) (h : vDb w [.slice A d.length c] d) (hb' : BDb d') (h' : vDb w [.slice A' d'.length c'] d') :
    Calls Try.prog 10 #[.agg #[.slice A d.length c], .agg #[.slice A' d'.length c']] w fun e w' => e = .returned (.bool (decide (d = d'))) ∧ ∃ y, w' = ext w y := by
  have r1 := (vDb_get h).2.1
  have r2 := (vDb_get h').2.1
  obtain ⟨t, ht⟩ : ∃ t, decide (d = d') = t := ⟨_, rfl⟩
  have HT := Lib.hid ht
  clear ht h h'
  cases t
  all_goals
    go_enter Try.func10, Try.ntmps10
    go_wp2_with (go_at_call 24; refine (eqTableS_any hb (r1.toExt (by refine x'z ?_; repeat (with_reducible (first | exact x'a _ _ | exact x'b _ | exact x'c (by assumption) | refine x'd ?_ (by assumption) | refine x'e ?_ _ | refine x'f ?_ _ | refine x'g ?_ | refine x'h ?_ ?_ _ | refine x'i ?_ _ | refine x'j ?_ | refine x'k ?_ _ | refine x'l ?_ _ _ | refine x'm ?_ | assumption | (refine x'n ?_; omega) | omega)))) hb' (r2.toExt (by refine x'z ?_; repeat (with_reducible (first | exact x'a _ _ | exact x'b _ | exact x'c (by assumption) | refine x'd ?_ (by assumption) | refine x'e ?_ _ | refine x'f ?_ _ | refine x'g ?_ | refine x'h ?_ ?_ _ | refine x'i ?_ _ | refine x'j ?_ | refine x'k ?_ _ | refine x'l ?_ _ _ | refine x'm ?_ | assumption | (refine x'n ?_; omega) | omega))))).mono ?_; rintro e w' ⟨rfl, y, rfl⟩; rw [HT.out])
    go_ret
    exact ⟨by rw [HT.out]; rfl, (by refine x'z ?_; repeat (with_reducible (first | exact x'a _ _ | exact x'b _ | exact x'c (by assumption) | refine x'd ?_ (by assumption) | refine x'e ?_ _ | refine x'f ?_ _ | refine x'g ?_ | refine x'h ?_ ?_ _ | refine x'i ?_ _ | refine x'j ?_ | refine x'k ?_ _ | refine x'l ?_ _ _ | refine x'm ?_ | assumption | (refine x'n ?_; omega) | omega)))⟩
end Go.Proofs.Ytgnmpjjlclbieaa
namespace Go.Proofs.Ytgnmpjjlclbieaa
open Go.ChangeShapes Go.WideShapes Go.ChangeAt Go.RowKit
theorem oTb : OpenE Try.prog 57 3 vTb QTb := openStruct2 Try.underlying57 rfl rfl oStr oRel (by kernel_rfl)
theorem oDb : OpenE Try.prog 24 1 vDb QDb := openStruct1 Try.underlying24 rfl (openSl Try.underlying22 (by kernel_rfl) (by omega) oTb) (by kernel_rfl)
theorem szRel_small {left : Int} {d : Rd} (hq : I64 d.1) (h : 0 ≤ szN szI left d.2) (hl : left ≤ 1048576) : BRel d := ⟨hq, szII_small h hl⟩
theorem szRel_le {left : Int} {d : Rd} (h : 0 ≤ szN szI left d.2) : szN szI left d.2 ≤ left := szII_le h
theorem vRel_shape' {w : World} {c : List Value} {d : Rd} (h : vRel w c d) : ∃ A a, c = [.int .i64 d.1, .slice A d.2.length a] := vRel_shape h
theorem sRel_form' {w : World} {v0 v1 : Value} {d : Rd} {F : List Nat} (h : sRel w [v0, v1] d F) : ∃ A c, v0 = .int .i64 d.1 ∧ v1 = .slice A d.2.length c := by
  obtain ⟨A, c, h1, h2, _⟩ := sRel_form h
  exact ⟨A, c, h1, h2⟩
end Go.Proofs.Ytgnmpjjlclbieaa
namespace Go.Proofs.Ytgnmpjjlclbieaa
open Go.RowKit
def mkRel (k : Int) (d : Rd) : Rd × Int := ((d.1, (mkN mkI k d.2).1), (mkN mkI k d.2).2)
theorem markRelation_d {v0 v1 : Value} {d : Rd} {F : List Nat} {k0 : Int} {w : World} (hb : BRel d) (h : sRel w [v0, v1] d F) (hN : F.Nodup) (h0 : 0 ≤ k0) (hk0 : k0 ≤ 80000000000) :
    Calls Try.prog 13 #[.agg #[v0, v1], .int .i64 k0] w fun e w' => ∃ k', e = .returned (.int .i64 k') ∧ Hid ((mkRel k0 d).2 = k') ∧ k0 ≤ k' ∧ k' ≤ k0 + 3000000 ∧ sRel w' [v0, v1] (mkRel k0 d).1 F ∧ Chg F w w' := by
  obtain ⟨A, c, rfl, rfl, hS⟩ := sRel_form h
  obtain ⟨_, hb2⟩ := hb
  have hlt : ∀ b ∈ F, b < w.heap.size := SMono.lt h
  clear h
  go_enter Try.func13, Try.ntmps13
  go_upto_region 1 with fail
  refine wp_name ?_
  intro W hW
  have xW : ∃ y, W = ext w y := by rw [hW.out]; exact (by refine x'z ?_; repeat (with_reducible (first | exact x'a _ _ | exact x'b _ | exact x'c (by assumption) | refine x'd ?_ (by assumption) | refine x'e ?_ _ | refine x'f ?_ _ | refine x'g ?_ | refine x'h ?_ ?_ _ | refine x'i ?_ _ | refine x'j ?_ | refine x'k ?_ _ | refine x'l ?_ _ _ | refine x'm ?_ | assumption | (refine x'n ?_; omega) | omega)))
  have BW0 : BoxAt W (w.heap.size) #[.int .i64 d.1, .slice A d.2.length c] := by rw [hW.out]; refine ⟨?_, fun j => ?_, fun j => ?_⟩ <;> go_simp
  obtain ⟨lW0, bW0, fW0⟩ := BW0
  have cW0_0 : W.cell? ⟨w.heap.size, 0, none⟩ = some (.int .i64 d.1) := bW0 0
  have cW0_1 : W.cell? ⟨w.heap.size, 1, none⟩ = some (.slice A d.2.length c) := bW0 1
  clear hW
  have hSW := OD.toExt hS xW
  go_wp2_with (go_at_call 27; refine (markIntSS_d hb2 hSW hN h0 (by omega)).mono ?_; rintro e w1 ⟨k1, rfl, HK1, kl1, ku1, hA1, hC1⟩)
  go_ret
  exact ⟨k1, rfl, HK1, kl1, ku1, sRel_mk hA1, (Chg.ofExt xW).trans hC1 (fun y hy => .inl hy)⟩
end Go.Proofs.Ytgnmpjjlclbieaa
namespace Go.Proofs.Ytgnmpjjlclbieaa
open Go.RowKit
abbrev Qd := Int × (List At × List Int)
def BQ (d : Qd) : Prop := I64 d.1 ∧ BAts d.2.1 ∧ d.2.2.length ≤ 1048576
def WQ (d : Qd) : Prop := I64 d.1 ∧ (d.2.1.length ≤ 4194304 ∧ ∀ x ∈ d.2.1, x.1.size ≤ 4194304 ∧ x.2.length ≤ 4194304) ∧ d.2.2.length ≤ 4194304
theorem BQ.w {d : Qd} (h : BQ d) : WQ d := ⟨h.1, ⟨by have := h.2.1.1; omega, fun x hx => by have := h.2.1.each x hx; omega⟩, by have := h.2.2; omega⟩
end Go.Proofs.Ytgnmpjjlclbieaa
namespace Go.Proofs.Ytgnmpjjlclbieaa
open Go.RowKit
theorem sl_blk {g g' n n' c c' : Nat} (h : Value.slice (some ⟨g, 0, none⟩) n c = .slice (some ⟨g', 0, none⟩) n' c') : g = g' := by
  injection h with e1 _ _
  injection e1 with e1
  injection e1 with e1 _ _
end Go.Proofs.Ytgnmpjjlclbieaa
namespace Go.Proofs.Ytgnmpjjlclbieaa
open Go.RowKit
def mkTb (k : Int) (x : Td) : Td × Int := ((mtx k, k + 1, (mkN mkI (k + 1 + 1) x.2.2).1), (mkN mkI (k + 1 + 1) x.2.2).2)
def lTb (x : Td) : Nat := 1 + 1 + (x.2.2.map fun y => y.length).sum
theorem mkTb_sum (k : Int) (xs : Dbd) : (mkN mkTb k xs).2 = k + ((xs.map lTb).sum : Nat) := mkN_sum (fun k x => by simp only [mkTb, mkI_sum, lTb]; omega) xs k
theorem mkTb_bd {k : Int} {xs : Dbd} (h0 : 0 ≤ k) (hs : k + ((xs.map lTb).sum : Nat) ≤ 99000000000) (i : Nat) : 0 ≤ (mkN mkTb k (xs.take i)).2 ∧ (mkN mkTb k (xs.take i)).2 ≤ 99000000000 := by
  rw [mkTb_sum]
  have := sum_take_le (c := lTb) xs i
  omega
theorem mkTb_tot : ∀ (d : Dbd), (d.map lTb).sum ≤ 2 * d.length + (d.map cTb).sum
  | [] => by simp
  | x :: d => by
    have := mkTb_tot d
    simp only [List.map_cons, List.sum_cons, List.length_cons, cTb, lTb, sum_one] at this ⊢
    omega
set_option maxHeartbeats 8000000 in
theorem markTableS_any {v : Value} {xs : Dbd} {F : List Nat} {k0 : Int} {w : World} (hb : BDb xs) (hS : SV 46 3 sTb w v xs F) (hN : F.Nodup) (h0 : 0 ≤ k0) (hk0 : k0 + ((xs.map lTb).sum : Nat) ≤ 85000000000) :
    Calls Try.prog 26 #[v, .int .i64 k0] w fun e w' => e = .returned (.int .i64 (mkN mkTb k0 xs).2) ∧ SV 46 3 sTb w' v (mkN mkTb k0 xs).1 F ∧ Chg F w w' := by
  have hx : xs.length ≤ 1000000000 := Nat.le_trans hb.1.1 (by omega)
  have Hxl := Lib.hid hb.each
  have HN := Lib.hid hN
  have hk0' : k0 + ((xs.map lTb).sum : Nat) ≤ 99000000000 := by omega
  have HB := Lib.hid (mkTb_bd h0 hk0')
  have HB9 : Hid (∀ i, (mkN mkTb k0 (xs.take i)).2 ≤ 85000000000) := Lib.hid (fun i => by
    rw [mkTb_sum]
    have := sum_take_le (c := lTb) xs i
    omega)
  clear hb hN hk0 hk0'
  obtain ⟨A, cap, rfl, _, _⟩ := hS.form
  go_enter Try.func26, Try.ntmps26
  go_wp2
  go_loopw [1, 5] (fun m i wr => ∃ k : Nat, i = .int .i64 k ∧ m = .int .i64 (mkN mkTb k0 (xs.take k)).2 ∧ k ≤ xs.length ∧ SV 46 3 sTb wr (.slice A xs.length cap) ((mkN mkTb k0 (xs.take k)).1 ++ xs.drop k) F ∧ Chg F w wr) (fun _ i _ => xs.length - (intOf i).toNat)
  case atStart => exact ⟨0, rfl, by simp [mkN], by omega, by simpa [mkN] using hS, Chg.refl F w⟩
  case round =>
    obtain ⟨k, rfl, rfl, hk, hSk, hC⟩ := hrel
    have hlen : ((mkN mkTb k0 (xs.take k)).1 ++ xs.drop k).length = xs.length := by simp; omega
    by_cases hlt : k < xs.length
    · obtain ⟨g, cap', hv, hgF, _, _⟩ := hSk.block (by intro e; rw [e] at hlen; simp at hlen; omega)
      rw [hlen] at hv
      injection hv with hA _ hc
      subst hA hc
      have hle := (Hxl.out xs[k] (List.getElem_mem hlt)).2.2
      obtain ⟨b1, _⟩ := HB.out k
      have b2 := HB9.out k
      have hst := mk_set (mk := mkTb) (k := k0) hlt
      have HT := Lib.hid (mkN_take (mk := mkTb) (k := k0) hlt)
      obtain ⟨m, hm⟩ : ∃ m, (mkN mkTb k0 (xs.take k)).2 = m := ⟨_, rfl⟩
      obtain ⟨L, hL⟩ : ∃ L, (mkN mkTb k0 (xs.take k)).1 ++ xs.drop k = L := ⟨_, rfl⟩
      rw [hm] at b1 b2 hst ⊢
      have HM := Lib.hid hm
      obtain ⟨x, hx⟩ : ∃ x, xs[k] = x := ⟨_, rfl⟩
      have HG : Hid (∀ h : k < L.length, L[k] = x) := Lib.hid (by subst hL; intro h; rw [← hx]; exact mk_get hlt h)
      rw [hL] at hst hSk hlen
      rw [hx] at hle hst
      have HX := Lib.hid hx
      have HS := Lib.hid hst
      have HL := Lib.hid hlen
      have hSk := Lib.hid hSk
      have HLE := Lib.hid hle
      have HK2 : Hid (k < L.length) := Lib.hid (by rw [HL.out]; exact hlt)
      clear hm hL hst hlen hx hle
      go_upto_region 5 with (go_at_call 41; refine (markText_any (by omega)).mono ?_; rintro e w2 ⟨rfl, hx2⟩; have hS2 := hSk.out.toExt hx2; obtain ⟨g2, cap2, c2, Fk2, hv2, hg2, hgF2, hgk2, hsub2, hNk2, hcl2, hcell2, hfz2, hE2, _, hup2⟩ := hS2.at HN.out HK2.out; obtain rfl := sl_blk hv2; clear hv2; rw [HG.out HK2.out] at hE2; obtain ⟨An, nn, rfl⟩ := sTb_list hE2; have hc20 := hcell2 0 (by simp); simp only [Nat.add_zero, List.getElem_cons_zero] at hc20; have HE2 := Lib.hid hE2; have Hup := Lib.hid hup2; clear hcell2 hup2 hsub2 hcl2 hS2 hE2)
      refine wp_name ?_
      intro w3 hw3
      have hR2 : sRel w2 [.int .i64 x.2.1, .slice An x.2.2.length nn] x.2 Fk2 := by obtain ⟨_, _, _, _, _, h⟩ := sTb_form HE2.out; exact h
      obtain ⟨hS3, hC3⟩ := Hup.out 0 (.string (mtx m)) (mtx m, x.2) (by omega) (show sTb w2 [.string (mtx m), .int .i64 x.2.1, .slice An x.2.2.length nn] (mtx m, x.2) Fk2 from sTb_mk hR2)
      rw [Nat.add_zero, ← hw3.out] at hS3 hC3
      obtain ⟨g3, cap3, c3, Fk3, hv3, hg3, hgF3, hgk3, hsub3, hNk3, hcl3, hcell3, hfz3, hE3, _, hup3⟩ := hS3.at HN.out (k := k) (by simpa using HK2.out)
      obtain rfl := sl_blk hv3
      rw [List.getElem_set_self] at hE3
      obtain ⟨A3, n3, rfl⟩ := sTb_list hE3
      have hc31 := hcell3 1 (by simp)
      simp only [List.getElem_cons_zero, List.getElem_cons_succ] at hc31
      have Hup3 := Lib.hid hup3
      have HE3 := Lib.hid hE3
      have HC3 := Lib.hid hC3
      have HgF := Lib.hid hgF
      clear hv3 hcell3 hup3 hsub3 hcl3 hS3 hC3 hw3 hc20 Hup hE3 hfz2 hR2 HE2
      go_upto_region 7 with fail
      refine wp_name ?_
      intro w4 hw4
      have hR3 : sII w3 [.slice A3 x.2.2.length n3] x.2.2 Fk3 := by
        obtain ⟨_, _, _, _, _, h⟩ := sTb_form HE3.out
        obtain ⟨_, _, _, _, h⟩ := sRel_form h
        exact h
      obtain ⟨hS4, hC4⟩ := Hup3.out 1 (.int .i64 (m + 1)) (mtx m, m + 1, x.2.2) (by omega) (show sTb w3 [.string (mtx m), .int .i64 (m + 1), .slice A3 x.2.2.length n3] (mtx m, m + 1, x.2.2) Fk3 from sTb_mk (sRel_mk hR3))
      rw [← hw4.out] at hS4 hC4
      obtain ⟨g4, cap4, c4, Fk4, hv4, hg4, hgF4, hgk4, hsub4, hNk4, hcl4, hcell4, hfz4, hE4, hup4, _⟩ := hS4.at HN.out (k := k) (by simpa using HK2.out)
      obtain rfl := sl_blk hv4
      rw [List.getElem_set_self] at hE4
      obtain ⟨A4, n4, rfl⟩ := sTb_list hE4
      have hc42 := hcell4 2 (by simp)
      simp only [List.getElem_cons_zero, List.getElem_cons_succ] at hc42
      have hR4 : sII w4 [.slice A4 x.2.2.length n4] x.2.2 Fk4 := by
        obtain ⟨_, _, _, _, _, h⟩ := sTb_form hE4
        obtain ⟨_, _, _, _, h⟩ := sRel_form h
        exact h
      have Hup4 := Lib.hid hup4
      have Hsub4 := Lib.hid hsub4
      have HC4 := Lib.hid hC4
      clear hv4 hcell4 hup4 hsub4 hcl4 hS4 hC4 hw4 hc31 Hup3 hE4 hfz3 hR3 HE3 hfz4
      go_wp2_with (go_at_call 27; refine (markIntSS_d HLE.out hR4 hNk4 (by omega) (by omega)).mono ?_; rintro e w5 ⟨k5, rfl, HK5, kl5, ku5, hS5, hC5⟩)
      have h5 := Hup4.out w5 (mtx m, m + 1, (mkN mkI (m + 1 + 1) x.2.2).1) (sTb_mk (sRel_mk hS5)) hC5
      rw [List.set_set, List.set_set] at h5
      have e3 : L.set k (mtx m, m + 1, (mkN mkI (m + 1 + 1) x.2.2).1) = (mkN mkTb k0 (xs.take (k + 1))).1 ++ xs.drop (k + 1) := HS.out
      have e4 : (mkN mkTb k0 (xs.take (k + 1))).2 = k5 := by rw [HT.out, HM.out, HX.out]; exact HK5.out
      exact ⟨⟨k + 1, by go_num, by rw [e4], by omega, by rw [← e3]; exact h5, (((Chg.trans0 hC hx2).trans HC3.out (fun y hy => .inl (by rw [List.mem_singleton.1 hy]; exact HgF.out))).trans HC4.out (fun y hy => .inl (by rw [List.mem_singleton.1 hy]; exact HgF.out))).trans hC5 (fun y hy => .inl (Hsub4.out y hy))⟩, by simp [intOf]; omega⟩
    · go_wp2
      go_ret
      have e : k = xs.length := by omega
      subst e
      rw [List.take_length] at hSk ⊢
      exact ⟨rfl, by rwa [List.drop_length, List.append_nil] at hSk, hC⟩
theorem markDatabase_d {v : Value} {d : Dbd} {F : List Nat} {k0 : Int} {w : World} (hb : BDb d) (h : sDb w [v] d F) (hN : F.Nodup) (h0 : 0 ≤ k0) (hk0 : k0 ≤ 80000000000) :
    Calls Try.prog 12 #[.agg #[v], .int .i64 k0] w fun e w' => ∃ k', e = .returned (.int .i64 k') ∧ Hid ((mkN mkTb k0 d).2 = k') ∧ k0 ≤ k' ∧ k' ≤ k0 + 4000000 ∧ sDb w' [v] (mkN mkTb k0 d).1 F ∧ Chg F w w' := by
  have hm := mkTb_tot d
  have hb1 := hb.1.1
  have hb2 := hb.1.2
  have hs := mkTb_sum k0 d
  obtain ⟨A, c, rfl⟩ := sDb_form h
  obtain ⟨v', e, hS⟩ := h
  injection e with e
  subst e
  have hk1 : k0 + ((d.map lTb).sum : Nat) ≤ 85000000000 := by omega
  have Hs := Lib.hid hs
  clear hs
  go_enter Try.func12, Try.ntmps12
  go_upto_region 1 with fail
  refine wp_name ?_
  intro W hW
  have xW : ∃ y, W = ext w y := by rw [hW.out]; exact (by refine x'z ?_; repeat (with_reducible (first | exact x'a _ _ | exact x'b _ | exact x'c (by assumption) | refine x'd ?_ (by assumption) | refine x'e ?_ _ | refine x'f ?_ _ | refine x'g ?_ | refine x'h ?_ ?_ _ | refine x'i ?_ _ | refine x'j ?_ | refine x'k ?_ _ | refine x'l ?_ _ _ | refine x'm ?_ | assumption | (refine x'n ?_; omega) | omega)))
  have PW : BoxAt W w.heap.size #[.slice A d.length c] := by rw [hW.out]; exact (by repeat (with_reducible (first | assumption | exact BoxAt.new _ _ _ | apply BoxAt.set10 | apply BoxAt.set2 | refine BoxAt.set2' ?_ (by omega) | apply BoxAt.setP0 | apply BoxAt.setP1 | refine BoxAt.setO ?_ (by omega) | refine BoxAt.alloc ?_ _ | refine BoxAt.drew ?_ | refine BoxAt.toExt ?_ (by assumption))))
  obtain ⟨lp, p0, fp⟩ := bx1 PW
  clear hW
  go_wp2_with (go_at_call 26; refine (markTableS_any hb (hS.toExt xW) hN h0 hk1).mono ?_; rintro e w1 ⟨rfl, hS1, hC1⟩)
  go_ret
  exact ⟨_, rfl, Lib.hid rfl, by rw [Hs.out]; omega, by rw [Hs.out]; omega, ⟨_, rfl, hS1⟩, (Chg.ofExt xW).trans hC1 (fun y hy => .inl hy)⟩
set_option maxHeartbeats 4000000 in
theorem heldTableS_any {A : Option Addr} {c n : Nat} {xs : Dbd} {k0 : Int} {w : World} (hb : BDb xs) (hn : xs.length = n) (h1 : RV 3 vTb w A (mkN mkTb k0 xs).1) (h0 : 0 ≤ k0) (hk0 : k0 + ((xs.map lTb).sum : Nat) ≤ 85000000000) :
    Calls Try.prog 28 #[.slice A n c, .int .i64 k0] w fun e w' => e = .returned (.int .i64 (mkN mkTb k0 xs).2) ∧ ∃ y, w' = ext w y := by
  subst hn
  have hx : xs.length ≤ 1000000000 := Nat.le_trans hb.1.1 (by omega)
  have Hxl := Lib.hid hb.each
  have HB := Lib.hid (mkTb_bd h0 (xs := xs) (by omega))
  have HB9 : Hid (∀ i, (mkN mkTb k0 (xs.take i)).2 ≤ 85000000000) := Lib.hid (fun i => by
    rw [mkTb_sum]
    have := sum_take_le (c := lTb) xs i
    omega)
  clear hb hk0
  go_enter Try.func28, Try.ntmps28
  go_wp2
  go_loopw [1, 5] (fun m i wr => ∃ k : Nat, i = .int .i64 k ∧ m = .int .i64 (mkN mkTb k0 (xs.take k)).2 ∧ k ≤ xs.length ∧ ∃ y, wr = ext w y) (fun _ i _ => xs.length - (intOf i).toNat)
  case atStart => exact ⟨0, rfl, by simp [mkN], by omega, refl_ext w⟩
  case round =>
    obtain ⟨k, rfl, rfl, hk, hy⟩ := hrel
    by_cases hlt : k < xs.length
    · obtain ⟨b, o, A2, c2, rfl, hb, hc, hc1, hc2, hv⟩ := (h1.toExt hy).atT (k := k) (by simpa using hlt)
      have hle := (Hxl.out xs[k] (List.getElem_mem hlt)).2.2
      obtain ⟨b1, _⟩ := HB.out k
      have b2 := HB9.out k
      obtain ⟨b3, _⟩ := HB.out (k + 1)
      have HT := Lib.hid (mkN_take (mk := mkTb) (k := k0) hlt)
      rw [HT.out] at b3
      have hat := mkN_at (mk := mkTb) (k := k0) hlt
      obtain ⟨z, hz⟩ : ∃ z, (mkN mkTb k0 xs).1[k]'(by simpa using hlt) = z := ⟨_, rfl⟩
      rw [hz] at hat hc hc1 hc2 hv
      obtain ⟨m, hm⟩ : ∃ m, (mkN mkTb k0 (xs.take k)).2 = m := ⟨_, rfl⟩
      have HM := Lib.hid hm
      rw [hm] at b1 b2 b3 hat ⊢
      obtain ⟨x, hx'⟩ : ∃ x, xs[k] = x := ⟨_, rfl⟩
      have HX := Lib.hid hx'
      rw [hx'] at hle b3 hat
      have hz1 : z.1 = mtx m := by rw [hat]; rfl
      have hz2 : z.2.1 = m + 1 := by rw [hat]; rfl
      have hz3 : z.2.2 = (mkN mkI (m + 1 + 1) x.2.2).1 := by rw [hat]; rfl
      have hvr := (vRel_get hv).2
      rw [hz1] at hc
      rw [hz2] at hc1
      rw [hz3] at hc2 hvr
      obtain ⟨k5, hk5⟩ : ∃ k5, (mkN mkI (m + 1 + 1) x.2.2).2 = k5 := ⟨_, rfl⟩
      have HK5 := Lib.hid hk5
      have b4 : 0 ≤ k5 := by rw [← hk5]; exact b3
      have q1 : ((mtx m).toList != (mtx m).toList) = false := by simp
      rw [mkN_length] at hc2 hvr
      clear hm hz hat hz1 hz2 hz3 b3 hx' hk5 hv
      go_wp2_with fail
      refine wp_region_ext (by kernel_rfl) (by kernel_rfl) ?_
      repeat (go_big_quiet_step ((go_at_call 41; exact quietE (markText_any (by omega)))))
      refine wpQuiet_nil ?_
      rintro _ ⟨z2, rfl⟩
      have l2 := lt_ext (x := z2) hb
      have hvx := VD.toExt (w' := ext wr z2) hvr ⟨z2, rfl⟩
      go_wp2_with (go_at_call 43; refine (heldIntSS_d hle HK5 hvx (by omega) (by omega)).mono ?_; rintro e w2 ⟨rfl, hx2⟩)
      have e4 : (mkN mkTb k0 (xs.take (k + 1))).2 = k5 := by rw [HT.out, HM.out, HX.out]; exact HK5.out
      exact ⟨⟨k + 1, by go_num, by rw [e4], by omega, trans_ext (trans_ext hy ⟨z2, rfl⟩) hx2⟩, by simp [intOf]; omega⟩
    · go_wp2
      go_ret
      have e : k = xs.length := by omega
      subst e
      rw [List.take_length]
      exact ⟨rfl, hy⟩
theorem heldDatabase_d {A : Option Addr} {c n : Nat} {d : Dbd} {k0 k' : Int} {w : World} (hb : BDb d) (hk : Hid ((mkN mkTb k0 d).2 = k')) (h : vDb w [.slice A n c] (mkN mkTb k0 d).1) (h0 : 0 ≤ k0) (hk0 : k0 ≤ 80000000000) :
    Calls Try.prog 14 #[.agg #[.slice A n c], .int .i64 k0] w fun e w' => e = .returned (.int .i64 k') ∧ ∃ y, w' = ext w y := by
  have hm := mkTb_tot d
  have hb1 := hb.1.1
  have hb2 := hb.1.2
  have hs := mkTb_sum k0 d
  obtain ⟨hn, hv, _⟩ := vDb_get h
  rw [mkN_length] at hn
  have hk1 : k0 + ((d.map lTb).sum : Nat) ≤ 85000000000 := by omega
  have hp : 0 ≤ k' := by rw [← hk.out, hs]; omega
  have HV := Lib.hid hv
  have HN := Lib.hid hn
  clear h hv hm hs hn
  go_enter Try.func14, Try.ntmps14
  go_wp2_with (go_at_call 28; refine (heldTableS_any hb HN.out.symm (HV.out.toExt (by refine x'z ?_; repeat (with_reducible (first | exact x'a _ _ | exact x'b _ | exact x'c (by assumption) | refine x'd ?_ (by assumption) | refine x'e ?_ _ | refine x'f ?_ _ | refine x'g ?_ | refine x'h ?_ ?_ _ | refine x'i ?_ _ | refine x'j ?_ | refine x'k ?_ _ | refine x'l ?_ _ _ | refine x'm ?_ | assumption | (refine x'n ?_; omega) | omega)))) h0 hk1).mono ?_; rintro e w1 ⟨rfl, hx1⟩; rw [hk.out])
  go_ret
  exact ⟨rfl, (by refine x'z ?_; repeat (with_reducible (first | exact x'a _ _ | exact x'b _ | exact x'c (by assumption) | refine x'd ?_ (by assumption) | refine x'e ?_ _ | refine x'f ?_ _ | refine x'g ?_ | refine x'h ?_ ?_ _ | refine x'i ?_ _ | refine x'j ?_ | refine x'k ?_ _ | refine x'l ?_ _ _ | refine x'm ?_ | assumption | (refine x'n ?_; omega) | omega)))⟩
end Go.Proofs.Ytgnmpjjlclbieaa
namespace Go.Proofs.Ytgnmpjjlclbieaa
open Go.RowKit
section
variable {P : Program} {w : World}
theorem wp_appB {o : Oper} {a : Act} {K : Act → World → Prop} {Q : Exit → Act → World → Prop} (s x : Operand) (t : TypeId)
    (ho : o.op = .call { callee := .builtin .append, args := #[s, x], argTypes := #[t, t] })
    {α : Type} {E : SE α} [SMono E] {te size bytes : Nat} {z : Value} (hT : SlT P t te size bytes z) {v : Value} {ds : List α} {F G : List Nat} {cs : Array Value} {d : α} {c b0 : Nat} (hs : a.eval s = v) (hx : a.eval x = .slice (some ⟨b0, 0, none⟩) 1 c) (hB : BoxAt w b0 cs)
    (hE : E w cs.toList d G) (hc : cs.size = size) (h1 : ∀ u ∈ cs.toList, u.oneCell' = true)
    (hS : SV te size E w v ds F) (hN : (F ++ G).Nodup) (hlen : ds.length + 1 ≤ 2000000000) (hby : bytes ≤ 60000)
    (h : ∀ v' w' F', SV te size E w' v' (ds ++ [d]) F' → Chg F w w' → F'.Nodup → (∀ b ∈ F', b ∈ F ∨ b ∈ G ∨ w.heap.size ≤ b) → K (a.put o.dst v') w') : o.wp P a w K Q := by
  refine wp_appS _ s x t ho hT hs hS (List.nodup_append.1 hN).1 hx (cs := cs.toList) (es := [d]) (G := G) (fun j u hj => ?_) h1 rfl (elems_one (by simpa using hc) hE) hN hlen hby h
  have e : (⟨b0, 0, none⟩ : Addr).add j = ⟨b0, j, none⟩ := by
    unfold Addr.add
    split
    · rename_i h; subst h; rfl
    · simp
  rw [e, hB.2.1 j]
  simpa using hj
theorem step_appB {ops : Array Oper} {o : Oper} {a : Act} {K : Act → World → Prop} {Q : Exit → Act → World → Prop} {X : Prop} (hgd : o.guard = none) (s x : Operand) (t : TypeId)
    (ho : o.op = .call { callee := .builtin .append, args := #[s, x], argTypes := #[t, t] })
    {α : Type} {E : SE α} [SMono E] {te size bytes : Nat} {z : Value} (hT : SlT P t te size bytes z) {v : Value} {ds : List α} {F G : List Nat} {cs : Array Value} {d : α} {c b0 : Nat} (hs : a.eval s = v) (hx : a.eval x = .slice (some ⟨b0, 0, none⟩) 1 c) (hB : BoxAt w b0 cs)
    (hE : E w cs.toList d G) (hc : cs.size = size) (h1 : ∀ u ∈ cs.toList, u.oneCell' = true)
    (hS : SV te size E w v ds F) (hN : (F ++ G).Nodup) (hlen : ds.length + 1 ≤ 2000000000) (hby : bytes ≤ 60000)
    (h : ∀ v' w' F', SV te size E w' v' (ds ++ [d]) F' → Chg F w w' → F'.Nodup → (∀ b ∈ F', b ∈ F ∨ b ∈ G ∨ w.heap.size ≤ b) → K (a.put o.dst v') w') :
    if Region.wanted o (yielded ops a.tmps) = true then Oper.wp P o a w K Q else X := by
  have hwt : Region.wanted o (yielded ops a.tmps) = true := by simp [Region.wanted, hgd]
  rw [if_pos hwt]
  exact wp_appB s x t ho hT hs hx hB hE hc h1 hS hN hlen hby h
end
end Go.Proofs.Ytgnmpjjlclbieaa
namespace Go.Proofs.Ytgnmpjjlclbieaa
open Go.RowKit
section
variable {P : Program} {w : World}
theorem wp_appL {o : Oper} {a : Act} {K : Act → World → Prop} {Q : Exit → Act → World → Prop} (s x : Operand) (t : TypeId)
    (ho : o.op = .call { callee := .builtin .append, args := #[s, x], argTypes := #[t, t] })
    {α : Type} {E : SE α} [SMono E] [SPlain E] {V : VE α} {te size bytes : Nat} {z : Value} (hT : SlT P t te size bytes z) {v : Value} {ds es : List α} {F : List Nat} (hs : a.eval s = v) (hS : SV te size E w v ds F)
    {A : Option Addr} {c m : Nat} (hx : a.eval x = .slice A m c) (hm : m = es.length) (hc : A = none → c = 0) (hV : RV size V w A es) (hVE : ∀ c d, V w c d → E w c d []) (h1 : ∀ c d, V w c d → ∀ u ∈ c, u.oneCell' = true)
    (hlen : ds.length + m ≤ 2000000000) (hby : bytes ≤ 60000)
    (h : ∀ v' w' F', SV te size E w' v' (ds ++ es) F' → Chg F w w' → (∀ b ∈ F', b ∈ F ∨ w.heap.size ≤ b) → K (a.put o.dst v') w') : o.wp P a w K Q := by
  subst hm
  cases A with
  | none =>
    have e0 : es = [] := Classical.byContradiction fun hn => by
      obtain ⟨b, o, h, _⟩ := hV hn
      cases h
    subst e0
    obtain ⟨ht, hi, _, _⟩ := hT
    obtain ⟨i, hi, _, _, _⟩ := info_parts hi
    rw [hc rfl] at hx
    have hS' := hS
    obtain ⟨vs, F2, ho', _, _⟩ := hS'
    have hrun := run_append_owned_none (P := P) (w := w) 0 t o.type te i size ht hi v ds.length vs ho'
    unfold Oper.wp execOp
    simp only [ho, resolve, invoke, builtin, Sem.run_bind, Sem.run_pure, Result.andThen_ok, List.map_toArray, List.map_cons, List.map_nil, hs, hx, List.length_nil, hrun]
    exact h v w F (by simpa using hS) (Chg.refl F w) fun b hb => .inl hb
  | some ad =>
    have hN := hS.nodup
    have key : ∃ cs : List Value, (∀ j u, cs[j]? = some u → w.cell? (ad.add j) = some u) ∧ elems size E w cs es [] ∧ ∀ u ∈ cs, u.oneCell' = true := by
      by_cases hn : es = []
      · subst hn
        exact ⟨[], by simp, ⟨rfl, rfl⟩, by simp⟩
      · obtain ⟨b, o, e, _, h3⟩ := hV hn
        injection e with e
        subst e
        exact RV.cells hVE h1 es o h3
    obtain ⟨cs, k1, k2, k3⟩ := key
    refine wp_appS _ s x t ho hT hs hS hN hx k1 k3 rfl k2 (by simpa using hN) hlen hby ?_
    intro v' w' F' h2 h3 _ h5
    exact h v' w' F' h2 h3 fun b hb => by
      rcases h5 b hb with h | h | h
      · exact .inl h
      · simp at h
      · exact .inr h
theorem vI_s {w : World} (c : List Value) (d : Int) (h : vI w c d) : sI w c d [] := ⟨h, rfl⟩
theorem vI_1 {w : World} (c : List Value) (d : Int) (h : vI w c d) : ∀ u ∈ c, u.oneCell' = true := by
  simp only [vI] at h
  subst h
  simp [Value.oneCell']
theorem RI.one {w : World} {B : Nat} {n : Int} (h : BoxAt w B #[.int .i64 n]) : RI w (some ⟨B, 0, none⟩) [n] := fun _ => ⟨B, 0, rfl, h.1, fun j hj => by
  have : j = 0 := by simpa using hj
  subst this
  refine ⟨[.int .i64 n], rfl, fun i hi => ?_, rfl⟩
  have : i = 0 := by simpa using hi
  subst this
  have := h.2.1 0
  simpa using this⟩
end
end Go.Proofs.Ytgnmpjjlclbieaa
namespace Go.Proofs.Ytgnmpjjlclbieaa
open Go.RowKit
section
variable {P : Program} {w : World}
theorem run_append_none_c (base : Nat) (t ty e : TypeId) (i : TypeInfo) (size c : Nat) (ht : P.underlying t = some (.slice e)) (hi : P.info? e = some i)
    (v : Value) (n : Nat) (xs : List Value) (hown : w.ownsRow base e size v n xs) : (Builtin.append_ #[t, t] ty #[v, .slice none 0 c]).run P w = .ok v w := by
  rcases hown.2 with ⟨rfl, rfl⟩ | ⟨g, cap, cur, rfl, _, _, hnc, _⟩
  · simp [Builtin.append_, run_underlying ht, sizeOf, typeInfo, hi, Builtin.lenOf, Builtin.firstCells]
  · simp [Builtin.append_, run_underlying ht, sizeOf, typeInfo, hi, Builtin.lenOf, Builtin.firstCells, hnc, storeCells]
theorem wp_appV {o : Oper} {a : Act} {K : Act → World → Prop} {Q : Exit → Act → World → Prop} (s x : Operand) (t : TypeId)
    (ho : o.op = .call { callee := .builtin .append, args := #[s, x], argTypes := #[t, t] })
    {α : Type} {E : SE α} [SMono E] [SPlain E] {V : VE α} {te size bytes : Nat} {z : Value} (hT : SlT P t te size bytes z) {v : Value} {ds es : List α} {F : List Nat} (hs : a.eval s = v) (hS : SV te size E w v ds F)
    {A : Option Addr} {c m : Nat} (hx : a.eval x = .slice A m c) (hm : m = es.length) (hV : RV size V w A es) (hVE : ∀ c d, V w c d → E w c d []) (h1 : ∀ c d, V w c d → ∀ u ∈ c, u.oneCell' = true)
    (hlen : ds.length + m ≤ 2000000000) (hby : bytes ≤ 60000)
    (h : ∀ v' w' F', SV te size E w' v' (ds ++ es) F' → Chg F w w' → (∀ b ∈ F', b ∈ F ∨ w.heap.size ≤ b) → K (a.put o.dst v') w') : o.wp P a w K Q := by
  cases A with
  | some ad => exact wp_appL s x t ho hT hs hS hx hm (fun h => by cases h) hV hVE h1 hlen hby h
  | none =>
    have e0 : es = [] := Classical.byContradiction fun hn => by
      obtain ⟨b, o, h, _⟩ := hV hn
      cases h
    subst e0
    subst hm
    obtain ⟨ht, hi, _, _⟩ := hT
    obtain ⟨i, hi, _, _, _⟩ := info_parts hi
    have hS' := hS
    obtain ⟨vs, F2, ho', _, _⟩ := hS'
    have hrun := run_append_none_c (P := P) (w := w) 0 t o.type te i size c ht hi v ds.length vs ho'
    unfold Oper.wp execOp
    simp only [ho, resolve, invoke, builtin, Sem.run_bind, Sem.run_pure, Result.andThen_ok, List.map_toArray, List.map_cons, List.map_nil, hs, hx, List.length_nil, hrun]
    exact h v w F (by simpa using hS) (Chg.refl F w) fun b hb => .inl hb
theorem step_appV {ops : Array Oper} {o : Oper} {a : Act} {K : Act → World → Prop} {Q : Exit → Act → World → Prop} {X : Prop} (hgd : o.guard = none) (s x : Operand) (t : TypeId)
    (ho : o.op = .call { callee := .builtin .append, args := #[s, x], argTypes := #[t, t] })
    {α : Type} {E : SE α} [SMono E] [SPlain E] {V : VE α} {te size bytes : Nat} {z : Value} (hT : SlT P t te size bytes z) {v : Value} {ds es : List α} {F : List Nat} (hs : a.eval s = v) (hS : SV te size E w v ds F)
    {A : Option Addr} {c m : Nat} (hx : a.eval x = .slice A m c) (hm : m = es.length) (hV : RV size V w A es) (hVE : ∀ c d, V w c d → E w c d []) (h1 : ∀ c d, V w c d → ∀ u ∈ c, u.oneCell' = true)
    (hlen : ds.length + m ≤ 2000000000) (hby : bytes ≤ 60000)
    (h : ∀ v' w' F', SV te size E w' v' (ds ++ es) F' → Chg F w w' → (∀ b ∈ F', b ∈ F ∨ w.heap.size ≤ b) → K (a.put o.dst v') w') :
    if Region.wanted o (yielded ops a.tmps) = true then Oper.wp P o a w K Q else X := by
  have hwt : Region.wanted o (yielded ops a.tmps) = true := by simp [Region.wanted, hgd]
  rw [if_pos hwt]
  exact wp_appV s x t ho hT hs hS hx hm hV hVE h1 hlen hby h
theorem wpList_appV {ops : Array Oper} {rest : List Oper} {o : Oper} {a : Act} {Q : Exit → Act → World → Prop} (hgd : o.guard = none) (s x : Operand) (t : TypeId)
    (ho : o.op = .call { callee := .builtin .append, args := #[s, x], argTypes := #[t, t] })
    {α : Type} {E : SE α} [SMono E] [SPlain E] {V : VE α} {te size bytes : Nat} {z : Value} (hT : SlT P t te size bytes z) {v : Value} {ds es : List α} {F : List Nat} (hs : a.eval s = v) (hS : SV te size E w v ds F)
    {A : Option Addr} {c m : Nat} (hx : a.eval x = .slice A m c) (hm : m = es.length) (hV : RV size V w A es) (hVE : ∀ c d, V w c d → E w c d []) (h1 : ∀ c d, V w c d → ∀ u ∈ c, u.oneCell' = true)
    (hlen : ds.length + m ≤ 2000000000) (hby : bytes ≤ 60000)
    (h : ∀ v' w' F', SV te size E w' v' (ds ++ es) F' → Chg F w w' → (∀ b ∈ F', b ∈ F ∨ w.heap.size ≤ b) → wpList P ops Q rest (a.put o.dst v') w') : wpList P ops Q (o :: rest) a w :=
  wpList_plain hgd fun _ hK => wp_appV s x t ho hT hs hS hx hm hV hVE h1 hlen hby fun v' w' F' h2 h3 h5 => hK _ _ (h v' w' F' h2 h3 h5)
end
def sOld {α : Type} (V : VE α) (W : World) : SE α := fun _ c d F => V W c d ∧ F = []
instance {α : Type} (V : VE α) (W : World) : SMono (sOld V W) := ⟨fun h b hb => by rw [h.2] at hb; simp at hb, fun h _ => h⟩
instance {α : Type} (V : VE α) (W : World) : SPlain (sOld V W) := ⟨fun h => h.2⟩
theorem sOld_v {α : Type} {V : VE α} [VMono V] {W w : World} (hx : ∃ y, w = ext W y) (c : List Value) (d : α) (F : List Nat) (h : sOld V W w c d F) : V w c d := by
  obtain ⟨y, rfl⟩ := hx
  exact VMono.ext h.1
theorem copyInts_v {A : Option Addr} {c : Nat} {xs : List Int} {w : World} (hx : xs.length ≤ 1000000000) (h1 : RI w A xs) :
    Calls Try.prog 49 #[.slice A xs.length c] w fun e w' => ∃ v F, e = .returned v ∧ (∃ y, w' = ext w y) ∧ SV 3 1 sI w' v xs F ∧ ∀ b ∈ F, w.heap.size ≤ b := by
  have hS0 := SV.empty (α := Int) (te := 3) (size := 1) (E := sI) w
  go_enter Try.func49, Try.ntmps49
  go_wp2_with (at_builtin; refine wpList_appV (E := sI) (V := vI) (es := xs) rfl _ _ _ rfl tI rfl hS0 rfl rfl (h1.toExt (by refine x'z ?_; repeat (with_reducible (first | exact x'a _ _ | exact x'b _ | exact x'c (by assumption) | refine x'd ?_ (by assumption) | refine x'e ?_ _ | refine x'f ?_ _ | refine x'g ?_ | refine x'h ?_ ?_ _ | refine x'i ?_ _ | refine x'j ?_ | refine x'k ?_ _ | refine x'l ?_ _ _ | refine x'm ?_ | assumption | (refine x'n ?_; omega) | omega)))) vI_s vI_1 (by simp; omega) (by omega) ?_; intro v' w' F' hS hC hF)
  go_ret
  exact ⟨_, F', rfl, hC.isExt (by refine x'z ?_; repeat (with_reducible (first | exact x'a _ _ | exact x'b _ | exact x'c (by assumption) | refine x'd ?_ (by assumption) | refine x'e ?_ _ | refine x'f ?_ _ | refine x'g ?_ | refine x'h ?_ ?_ _ | refine x'i ?_ _ | refine x'j ?_ | refine x'k ?_ _ | refine x'l ?_ _ _ | refine x'm ?_ | assumption | (refine x'n ?_; omega) | omega))) (by simp), by simpa using hS, fun b hb => by
    rcases hF b hb with h | h
    · simp at h; omega
    · simp at h; omega⟩
end Go.Proofs.Ytgnmpjjlclbieaa
namespace Go.Proofs.Ytgnmpjjlclbieaa
open Go.RowKit
def Lie {α : Type} (size : Nat) (E : SE α) (w : World) (A : Option Addr) (es : List α) (G : List Nat) : Prop :=
  ∃ cs, elems size E w cs es G ∧ (∀ u ∈ cs, u.oneCell' = true) ∧ (A = none → es = []) ∧ ∀ ad, A = some ad → ∀ j u, cs[j]? = some u → w.cell? (ad.add j) = some u
theorem elems_one1 {α : Type} {E : SE α} {w : World} {size : Nat} (hE1 : ∀ w c d F, E w c d F → ∀ u ∈ c, u.oneCell' = true) : ∀ {vs : List Value} {ds : List α} {F : List Nat}, elems size E w vs ds F → ∀ u ∈ vs, u.oneCell' = true
  | _, [], _, ⟨h, _⟩, u, hu => by subst h; simp at hu
  | _, _ :: _, _, ⟨c, vs', F1, F2, h1, _, h3, h4, _⟩, u, hu => by
    subst h1
    rcases List.mem_append.1 hu with h | h
    · exact hE1 _ _ _ _ h3 u h
    · exact elems_one1 hE1 h4 u h
section
variable {P : Program} {w w' : World} {α : Type} {E : SE α} {te size bytes : Nat}
theorem SV.parts {v : Value} {ds : List α} {F : List Nat} (hE1 : ∀ w c d F, E w c d F → ∀ u ∈ c, u.oneCell' = true) (h : SV te size E w v ds F) (hN : F.Nodup) {k : Nat} (hk : k ≤ ds.length) : ∃ A cap G1 G2, v = .slice A ds.length cap ∧ ds.length ≤ cap ∧ Hid (cap ≤ maxLen) ∧ (A = none → ds = []) ∧
    (∀ b o, A = some ⟨b, o, none⟩ → o = 0) ∧ (∀ ad, A = some ad → ∃ b, ad = ⟨b, 0, none⟩) ∧ (∀ b ∈ G1, b ∈ F) ∧ (∀ b ∈ G2, b ∈ F) ∧ G1.Nodup ∧ G2.Nodup ∧ (∀ b ∈ G1, b ∉ G2) ∧
    Lie size E w A (ds.take k) G1 ∧ (∀ A', (∀ b, A = some ⟨b, 0, none⟩ → A' = some ⟨b, k * size, none⟩) → (A = none → A' = none) → Lie size E w A' (ds.drop k) G2) := by
  obtain ⟨A, cap, rfl, hc1, hc2⟩ := h.form
  obtain ⟨vs, F2, h1, h2, rfl⟩ := h
  have h2' := h2
  rw [← List.take_append_drop k ds] at h2'
  obtain ⟨vs1, vs2, G1, G2, e1, e2, k1, k2⟩ := elems_split h2'
  have hl1 := elems_length k1
  have hl2 := elems_length k2
  rw [List.length_take, Nat.min_eq_left hk] at hl1
  have hNd := (List.nodup_append.1 hN).2.1
  rw [e2] at hNd
  obtain ⟨n1, n2, n3⟩ := List.nodup_append.1 hNd
  have hA : ∀ ad, A = some ad → ∃ b, ad = ⟨b, 0, none⟩ := fun ad e => by
    subst e
    rcases h1.2 with ⟨h9, _⟩ | ⟨g, cap', cur, h9, _⟩
    · injection h9 with h9; cases h9
    · injection h9 with h9; injection h9 with h9; exact ⟨g, h9⟩
  have hA0 : A = none → ds = [] := fun e => by
    subst e
    rcases h1.2 with ⟨_, h9⟩ | ⟨g, cap', cur, h9, _⟩
    · exact List.eq_nil_of_length_eq_zero h9
    · injection h9 with h9; cases h9
  have hcell : ∀ b, A = some ⟨b, 0, none⟩ → ∀ j u, vs[j]? = some u → w.cell? ⟨b, j, none⟩ = some u := fun b e j u hj => by
    subst e
    have hlt := (List.getElem?_eq_some_iff.1 hj).1
    have hvl := elems_length h2
    rw [h1.cellAt j (by omega)]
    exact hj
  have hadd : ∀ b o j, (⟨b, o, none⟩ : Addr).add j = ⟨b, o + j, none⟩ := fun b o j => by
    unfold Addr.add
    split
    · rename_i h; subst h; rfl
    · rfl
  refine ⟨A, cap, G1, G2, rfl, hc1, hc2, hA0, fun b o e => ?_, hA, fun b hb => by rw [e2]; simp [hb], fun b hb => by rw [e2]; simp [hb], n1, n2, fun b hb hb2 => n3 b hb b hb2 rfl, ?_, fun A' hA1 hA2 => ?_⟩
  · obtain ⟨b', e'⟩ := hA _ e
    injection e'
  · refine ⟨vs1, k1, elems_one1 hE1 k1, fun e => by rw [hA0 e]; simp, fun ad e j u hj => ?_⟩
    obtain ⟨b, rfl⟩ := hA ad e
    rw [hadd, Nat.zero_add]
    exact hcell b e j u (by rw [e1, List.getElem?_append_left (List.getElem?_eq_some_iff.1 hj).1]; exact hj)
  · refine ⟨vs2, k2, elems_one1 hE1 k2, fun e => ?_, fun ad e j u hj => ?_⟩
    · cases hq : A with
      | none => rw [hA0 hq]; simp
      | some ad =>
        obtain ⟨b, rfl⟩ := hA ad hq
        rw [hA1 b hq] at e; cases e
    · cases hq : A with
      | none => rw [hA2 hq] at e; cases e
      | some ad' =>
        obtain ⟨b, rfl⟩ := hA ad' hq
        rw [hA1 b hq] at e
        injection e with e
        subst e
        rw [hadd]
        refine hcell b hq _ u ?_
        rw [e1, List.getElem?_append_right (by omega), hl1, Nat.add_sub_cancel_left]
        exact hj
variable [SMono E]
theorem Lie.keep {A : Option Addr} {es : List α} {G : List Nat} (h : Lie size E w A es G) (hG : ∀ b ∈ G, w'.heap[b]? = w.heap[b]?) (hA : ∀ ad, A = some ad → w'.heap[ad.block]? = w.heap[ad.block]?) : Lie size E w' A es G := by
  obtain ⟨cs, h1, h2, h3, h4⟩ := h
  refine ⟨cs, elems_keep h1 hG, h2, h3, fun ad e j u hj => ?_⟩
  have hb : (ad.add j).block = ad.block := by unfold Addr.add; split <;> rfl
  have h9 := hA ad e
  rw [← hb] at h9
  exact (World.cell?_of_block h9).trans (h4 ad e j u hj)
theorem wp_appP {o : Oper} {a : Act} {K : Act → World → Prop} {Q : Exit → Act → World → Prop} (s x : Operand) (t : TypeId)
    (ho : o.op = .call { callee := .builtin .append, args := #[s, x], argTypes := #[t, t] })
    {z : Value} (hT : SlT P t te size bytes z) {v : Value} {ds : List α} {F : List Nat} (hs : a.eval s = v) (hS : SV te size E w v ds F) (hN : F.Nodup)
    {A : Option Addr} {m c : Nat} {es : List α} {G : List Nat} (hx : a.eval x = .slice A m c) (hm : m = es.length) (hL : Lie size E w A es G) (hN2 : (F ++ G).Nodup) (hlen : ds.length + m ≤ 2000000000) (hby : bytes ≤ 60000)
    (h : ∀ v' w' F', SV te size E w' v' (ds ++ es) F' → Chg F w w' → F'.Nodup → (∀ b ∈ F', b ∈ F ∨ b ∈ G ∨ w.heap.size ≤ b) → K (a.put o.dst v') w') : o.wp P a w K Q := by
  obtain ⟨cs, k1, k2, k3, k4⟩ := hL
  cases A with
  | some ad => exact wp_appS _ s x t ho hT hs hS hN hx (k4 ad rfl) k2 hm k1 hN2 hlen hby h
  | none =>
    have e0 := k3 rfl
    subst e0
    subst hm
    obtain ⟨ht, hi, _, _⟩ := hT
    obtain ⟨i, hi, _, _, _⟩ := info_parts hi
    have hS' := hS
    obtain ⟨vs, F2, ho', _, _⟩ := hS'
    have hrun := run_append_none_c (P := P) (w := w) 0 t o.type te i size c ht hi v ds.length vs ho'
    unfold Oper.wp execOp
    simp only [ho, resolve, invoke, builtin, Sem.run_bind, Sem.run_pure, Result.andThen_ok, List.map_toArray, List.map_cons, List.map_nil, hs, hx, List.length_nil, hrun]
    exact h v w F (by simpa using hS) (Chg.refl F w) hN fun b hb => .inl hb
theorem step_appP {ops : Array Oper} {o : Oper} {a : Act} {K : Act → World → Prop} {Q : Exit → Act → World → Prop} {X : Prop} (hgd : o.guard = none) (s x : Operand) (t : TypeId)
    (ho : o.op = .call { callee := .builtin .append, args := #[s, x], argTypes := #[t, t] })
    {z : Value} (hT : SlT P t te size bytes z) {v : Value} {ds : List α} {F : List Nat} (hs : a.eval s = v) (hS : SV te size E w v ds F) (hN : F.Nodup)
    {A : Option Addr} {m c : Nat} {es : List α} {G : List Nat} (hx : a.eval x = .slice A m c) (hm : m = es.length) (hL : Lie size E w A es G) (hN2 : (F ++ G).Nodup) (hlen : ds.length + m ≤ 2000000000) (hby : bytes ≤ 60000)
    (h : ∀ v' w' F', SV te size E w' v' (ds ++ es) F' → Chg F w w' → F'.Nodup → (∀ b ∈ F', b ∈ F ∨ b ∈ G ∨ w.heap.size ≤ b) → K (a.put o.dst v') w') :
    if Region.wanted o (yielded ops a.tmps) = true then Oper.wp P o a w K Q else X := by
  have hwt : Region.wanted o (yielded ops a.tmps) = true := by simp [Region.wanted, hgd]
  rw [if_pos hwt]
  exact wp_appP s x t ho hT hs hS hN hx hm hL hN2 hlen hby h
end
theorem SV.swap3 {α : Type} {te : Nat} {w : World} {E : SE α} [SMono E] {ds : List α} {g cap n : Nat} {F G : List Nat} (h : SV te 3 E w (.slice (some ⟨g, 0, none⟩) n cap) ds F) (hn : ds.length = n) (hN : (F ++ G).Nodup) {k : Nat} (hk : k < ds.length) {u v x : Value} {d : α} (hE : E w [u, v, x] d G) :
    ∃ F', SV te 3 E (((w.setCell ⟨g, k * 3, none⟩ u).setCell ⟨g, k * 3 + 1, none⟩ v).setCell ⟨g, k * 3 + 2, none⟩ x) (.slice (some ⟨g, 0, none⟩) n cap) (ds.set k d) F' ∧ Chg [g] w (((w.setCell ⟨g, k * 3, none⟩ u).setCell ⟨g, k * 3 + 1, none⟩ v).setCell ⟨g, k * 3 + 2, none⟩ x) ∧ F'.Nodup ∧ (∀ b ∈ F', b ∈ F ∨ b ∈ G) ∧ g ∈ F := by
  subst hn
  obtain ⟨vs, F2, h1, h2, h3⟩ := h
  have hfp : fpOf (.slice (some ⟨g, 0, none⟩) ds.length cap) = [g] := rfl
  rw [hfp] at h3
  obtain ⟨c, vs1, vs2, G1, G2, Fk, e1, e2, e3, e4, e5, e6, e7⟩ := elems_upd (c' := []) (d' := d) (Fk := []) (w' := w) h2 hk
  subst h3 e4
  have hN' := hN
  rw [List.nodup_append] at hN'
  obtain ⟨m1, m2, m3⟩ := hN'
  rw [List.singleton_append, List.nodup_cons, List.nodup_append, List.nodup_append] at m1
  obtain ⟨n1, n2, ⟨n3, n4, n5⟩, n6⟩ := m1
  have hlen := elems_length h2
  have hm : (k + 1) * 3 ≤ ds.length * 3 := Nat.mul_le_mul_right _ hk
  obtain ⟨s1, t1⟩ := h1.stored (k * 3) u
  obtain ⟨s2, t2⟩ := s1.stored (k * 3 + 1) v
  obtain ⟨s3, t3⟩ := s2.stored (k * 3 + 2) x
  have hC : Chg [g] w (((w.setCell ⟨g, k * 3, none⟩ u).setCell ⟨g, k * 3 + 1, none⟩ v).setCell ⟨g, k * 3 + 2, none⟩ x) := (((Chg.refl [g] w).setCell (.inl (by simp)) u).setCell (.inl (by simp)) v).setCell (.inl (by simp)) x
  have hl1 : vs1.length = k * 3 := e2
  have hvs : ((vs.set (k * 3) u).set (k * 3 + 1) v).set (k * 3 + 2) x = vs1 ++ ([u, v, x] ++ vs2) := by
    match c, e3 with
    | [c0, c1, c2], _ =>
      rw [e1, List.set_append_right _ _ (by omega), List.set_append_right _ _ (by omega), List.set_append_right _ _ (by omega), hl1, Nat.sub_self, show k * 3 + 1 - k * 3 = 1 by omega, show k * 3 + 2 - k * 3 = 2 by omega]
      rfl
  rw [hvs] at s3
  have hkp : ∀ b, b ∈ G1 ++ (Fk ++ G2) ∨ b ∈ G → (((w.setCell ⟨g, k * 3, none⟩ u).setCell ⟨g, k * 3 + 1, none⟩ v).setCell ⟨g, k * 3 + 2, none⟩ x).heap[b]? = w.heap[b]? := fun b hb => by
    refine hC.block b ?_ ?_
    · rcases hb with hb | hb
      · exact elems_lt h2 b hb
      · exact SMono.lt hE b hb
    · intro e
      rw [List.mem_singleton.1 e] at hb
      rcases hb with hb | hb
      · exact n1 hb
      · exact m3 g (by simp) g hb rfl
  refine ⟨[g] ++ (G1 ++ (G ++ G2)), ⟨vs1 ++ ([u, v, x] ++ vs2), G1 ++ (G ++ G2), by rw [List.length_set]; exact s3, ?_, by rw [hfp]⟩, hC, ?_, fun b hb => ?_, by simp⟩
  · rw [set_split hk]
    exact elems_join (elems_keep e6 fun b hb => hkp b (.inl (by simp [hb]))) rfl (SMono.keep hE fun b hb => hkp b (.inr hb)) (elems_keep e7 fun b hb => hkp b (.inl (by simp [hb])))
  · rw [List.singleton_append, List.nodup_cons, List.nodup_append, List.nodup_append]
    refine ⟨?_, n2, ⟨m2, n4, ?_⟩, ?_⟩
    · intro hb
      simp only [List.mem_append] at hb
      rcases hb with hb | hb | hb
      · exact n1 (by simp [hb])
      · exact m3 g (by simp) g hb rfl
      · exact n1 (by simp [hb])
    · intro a ha b hb e
      exact m3 b (by simp [hb]) a ha e.symm
    · intro a ha b hb e
      rcases List.mem_append.1 hb with h | h
      · exact m3 a (by simp [ha]) b h e
      · exact n6 a ha b (by simp [h]) e
  · simp only [List.singleton_append, List.mem_cons, List.mem_append] at hb ⊢
    rcases hb with hb | hb | hb | hb
    · exact .inl (.inl hb)
    · exact .inl (.inr (.inl hb))
    · exact .inr hb
    · exact .inl (.inr (.inr (.inr hb)))
end Go.Proofs.Ytgnmpjjlclbieaa
namespace Go.Proofs.Ytgnmpjjlclbieaa
open Go.RowKit
section
variable {w w' : World} {α : Type} {E : SE α} {te size : Nat}
theorem SV.empty' {B : Nat} (hw : w' = w.alloc (.cells #[] te)) (hB : B = w.heap.size) : SV te size E w' (.slice (some ⟨B, 0, none⟩) 0 0) ([] : List α) [B] := by
  subst hw hB
  exact SV.empty w
theorem Lie.nil {A : Option Addr} : Lie size E w A ([] : List α) [] := ⟨[], ⟨rfl, rfl⟩, by simp, fun _ => rfl, fun _ _ _ _ h => by simp at h⟩
section
variable [SMono E]
theorem Lie.lt {A : Option Addr} {es : List α} {G : List Nat} (h : Lie size E w A es G) : ∀ b ∈ G, b < w.heap.size := by
  obtain ⟨cs, h1, _⟩ := h
  exact fun b hb => elems_lt h1 b hb
theorem Lie.chg {A : Option Addr} {es : List α} {G F : List Nat} (h : Lie size E w A es G) (hA : ∀ ad, A = some ad → ad.block < w.heap.size ∧ ad.block ∉ F) (hC : Chg F w w') (hG : ∀ b ∈ G, b ∉ F) : Lie size E w' A es G :=
  h.keep (fun b hb => hC.block b (h.lt b hb) (hG b hb)) fun ad e => hC.block _ (hA ad e).1 (hA ad e).2
theorem Lie.toExt {A : Option Addr} {es : List α} {G : List Nat} (h : Lie size E w A es G) (hA : ∀ ad, A = some ad → ad.block < w.heap.size) (hx : ∃ y, w' = ext w y) : Lie size E w' A es G :=
  h.chg (F := []) (fun ad e => ⟨hA ad e, by simp⟩) (Chg.ofExt hx) (by simp)
end
theorem SV.cut2 {A : Option Addr} {n cap : Nat} {ds : List α} {F : List Nat} (hE1 : ∀ w c d F, E w c d F → ∀ u ∈ c, u.oneCell' = true) (h : SV te size E w (.slice A n cap) ds F) (hN : F.Nodup) {k : Nat} (hk : k ≤ ds.length) : ∃ G1 G2, (∀ b ∈ G1, b ∈ F) ∧ (∀ b ∈ G2, b ∈ F) ∧ G1.Nodup ∧ G2.Nodup ∧ (∀ b ∈ G1, b ∉ G2) ∧
    (∀ ad, A = some ad → ad.block < w.heap.size ∧ ad.block ∉ G1 ∧ ad.block ∉ G2) ∧ Lie size E w A (ds.take k) G1 ∧ (∀ A', (∀ b, A = some ⟨b, 0, none⟩ → A' = some ⟨b, k * size, none⟩) → (A = none → A' = none) → Lie size E w A' (ds.drop k) G2) := by
  have hN' := hN
  have h' := h
  obtain ⟨A9, cap9, G1, G2, e9, _, _, hA0, hA1, hA2, g1, g2, n1, n2, n3, L1, L2⟩ := h.parts hE1 hN hk
  injection e9 with e9 e92 e93
  subst e9 e92 e93
  by_cases hds : ds = []
  · subst hds
    refine ⟨[], [], by simp, by simp, by simp, by simp, by simp, fun ad e => ⟨?_, by simp, by simp⟩, by simpa using Lie.nil, fun A' _ _ => by simpa using Lie.nil⟩
    obtain ⟨vs, F2, h1, _, _⟩ := h'
    obtain ⟨b, rfl⟩ := hA2 ad e
    subst e
    exact (h1.lt b rfl).2
  · obtain ⟨vs, F2, h1, h2, rfl⟩ := h'
    have h2' := h2
    rw [← List.take_append_drop k ds] at h2'
    obtain ⟨vs1, vs2, H1, H2, e1, e2, k1, k2⟩ := elems_split h2'
    have hl1 := elems_length k1
    rw [List.length_take, Nat.min_eq_left hk] at hl1
    have hNd := (List.nodup_append.1 hN').2.1
    rw [e2] at hNd
    obtain ⟨m1, m2, m3⟩ := List.nodup_append.1 hNd
    have hap := (List.nodup_append.1 hN').2.2
    have hcell : ∀ b, A = some ⟨b, 0, none⟩ → ∀ j u, vs[j]? = some u → w.cell? ⟨b, j, none⟩ = some u := fun b e j u hj => by
      subst e
      have hlt := (List.getElem?_eq_some_iff.1 hj).1
      have hvl := elems_length h2
      rw [h1.cellAt j (by omega)]
      exact hj
    have hadd : ∀ b o j, (⟨b, o, none⟩ : Addr).add j = ⟨b, o + j, none⟩ := fun b o j => by
      unfold Addr.add
      split
      · rename_i h; subst h; rfl
      · rfl
    refine ⟨H1, H2, fun b hb => by rw [e2]; simp [hb], fun b hb => by rw [e2]; simp [hb], m1, m2, fun b hb hb2 => m3 b hb b hb2 rfl, fun ad e => ?_, ?_, fun A' hB1 hB2 => ?_⟩
    · obtain ⟨b, rfl⟩ := hA2 ad e
      subst e
      refine ⟨(h1.lt b rfl).2, fun hb => ?_, fun hb => ?_⟩
      · exact hap b (mem_fpOf.2 rfl) b (by rw [e2]; simp [hb]) rfl
      · exact hap b (mem_fpOf.2 rfl) b (by rw [e2]; simp [hb]) rfl
    · refine ⟨vs1, k1, elems_one1 hE1 k1, fun e => by rw [hA0 e]; simp, fun ad e j u hj => ?_⟩
      obtain ⟨b, rfl⟩ := hA2 ad e
      rw [hadd, Nat.zero_add]
      exact hcell b e j u (by rw [e1, List.getElem?_append_left (List.getElem?_eq_some_iff.1 hj).1]; exact hj)
    · refine ⟨vs2, k2, elems_one1 hE1 k2, fun e => ?_, fun ad e j u hj => ?_⟩
      · cases hq : A with
        | none => rw [hA0 hq]; simp
        | some ad =>
          obtain ⟨b, rfl⟩ := hA2 ad hq
          rw [hB1 b hq] at e; cases e
      · cases hq : A with
        | none => rw [hB2 hq] at e; cases e
        | some ad' =>
          obtain ⟨b, rfl⟩ := hA2 ad' hq
          rw [hB1 b hq] at e
          injection e with e
          subst e
          rw [hadd]
          refine hcell b hq _ u ?_
          rw [e1, List.getElem?_append_right (by omega), hl1, Nat.add_sub_cancel_left]
          exact hj
end
end Go.Proofs.Ytgnmpjjlclbieaa
namespace Go.Proofs.Ytgnmpjjlclbieaa
def LastQ (P : Program) (ops : Array Oper) (L : Nat) (Q : Exit → Act → World → Prop) : Exit → Act → World → Prop
  | .normal, a, w => Go.wpOp P ops Q L (Q .normal) a w
  | e, a, w => Q e a w
def regBackB (md : Region.Mode) (ops : Array Oper) : Bool :=
  (List.range ops.size).all fun j => match ops[j]? with
    | some o => o.after.all fun e => !Region.binds md e || decide (e.on < j)
    | none => true
def regLastB (md : Region.Mode) (ops : Array Oper) (L : Nat) : Bool :=
  regBackB md ops && Region.sinkB md ops L && Region.chainB md ops L && decide (L + 1 = ops.size)
section
variable {P : Program} {ops : Array Oper} {Q : Exit → Act → World → Prop} {md : Region.Mode} {S : World → Prop}
theorem wpOp_lastQ {L i : Nat} {K : Act → World → Prop} {a : Act} {w : World} (h : Go.wpOp P ops (LastQ P ops L Q) i K a w) : Go.wpOp P ops Q i K a w := by
  unfold Go.wpOp at *
  cases ho : ops[i]? with
  | none => simpa [ho] using h
  | some o =>
    simp only [ho] at h ⊢
    split
    · rename_i hw
      rw [if_pos hw] at h
      rcases h with h | ⟨h1, a0, w0, h2⟩
      · refine .inl ?_
        unfold Oper.wp at *
        generalize (execOp a.eval o).run P w = r at *
        cases r with
        | ok n w' =>
          cases n <;> first
            | exact h
            | exact Calls.mono h (fun e w'' he => by cases e <;> exact he)
        | halt x w' => cases x <;> exact h
      · exact .inr ⟨h1, a0, w0, h2⟩
    · rename_i hw
      rw [if_neg hw] at h
      exact h
theorem reg_first_ready {listed : Array Bool} (hb : regBackB md ops = true) (hsz : listed.size = ops.size) : ∀ i, i < ops.size → listed.getD i true = false → ∃ j, j ≤ i ∧ j ∈ Region.ready md ops listed := by
  intro i
  induction i using Nat.strongRecOn with
  | _ i ih =>
    intro hi hu
    by_cases hall : ∀ o, ops[i]? = some o → ∀ e ∈ o.after, Region.binds md e = true → listed.getD e.on false = true
    · exact ⟨i, Nat.le_refl _, Go.mem_ready.2 ⟨hu, ops[i], Array.getElem?_eq_getElem hi, hall _ (Array.getElem?_eq_getElem hi)⟩⟩
    · simp only [Classical.not_forall] at hall
      obtain ⟨o, ho, e, he, hbe, hn⟩ := hall
      have h1 := List.all_eq_true.1 hb i (List.mem_range.2 hi)
      simp only [ho] at h1
      have h2 := Array.all_eq_true'.1 h1 e he
      simp only [hbe, Bool.not_true, Bool.false_or, decide_eq_true_eq] at h2
      have hlt : e.on < listed.size := by omega
      obtain ⟨j, hj, hr⟩ := ih e.on h2 (by omega) (Go.getD_in hlt (by simpa using hn))
      exact ⟨j, by omega, hr⟩
theorem wpAny_of_last {L : Nat} (hb : regBackB md ops = true) (hs : Region.sinkB md ops L = true) (hc : Region.chainB md ops L = true) (hL : L + 1 = ops.size) :
    ∀ (f : Nat) (listed : Array Bool) (a : Act) (w : World), HeadInv md ops L listed → Go.wpAnyH P md ops (LastQ P ops L Q) S f (listed.setIfInBounds L true) a w → Go.wpAny P md ops Q (f + 1) listed a w := by
  intro f
  induction f with
  | zero =>
    intro listed a w inv h
    have hall : ∀ i, i < L → listed.getD i true = true := fun i hi => by
      cases hu : listed.getD i true with
      | true => rfl
      | false =>
        obtain ⟨j, hj, hr⟩ := reg_first_ready hb inv.size i (by omega) hu
        have := Go.ready_mono hr (show j ≠ L by omega)
        rw [h.1] at this
        cases this
    have hLr : L ∈ Region.ready md ops listed := by
      obtain ⟨j, hj, hr⟩ := reg_first_ready hb inv.size L (by omega) (inv.tail L (Nat.le_refl _) (by omega))
      by_cases e : j = L
      · exact e ▸ hr
      · have := (Go.mem_ready.1 hr).1
        rw [hall j (by omega)] at this
        cases this
    refine ⟨fun h0 => (by rw [h0] at hLr; cases hLr), fun i hi => ?_⟩
    have hiL : i = L := by
      obtain ⟨hu, o, ho, _⟩ := Go.mem_ready.1 hi
      have hlt : i < ops.size := (Array.getElem?_eq_some_iff.1 ho).1
      by_cases e : i < L
      · rw [hall i e] at hu; cases hu
      · omega
    subst hiL
    exact Go.wpOp_mono (fun a' w' h' => Go.wpAny_done h.1 h' _) h.2
  | succ f ih =>
    intro listed a w inv h
    by_cases hex : ∃ i, i < L ∧ listed.getD i true = false
    · obtain ⟨i0, hi0, hu⟩ := hex
      obtain ⟨j0, _, hj0⟩ := reg_first_ready hb inv.size i0 (by omega) hu
      refine ⟨fun h0 => (by rw [h0] at hj0; cases hj0), fun i hi => ?_⟩
      have hiL : i < L := by
        rcases Nat.lt_or_ge i L with h' | h'
        · exact h'
        · exact absurd hi (Go.tail_waits hs hc (by omega) inv _ i0 rfl hi0 hu i h')
      have h1 := wpOp_lastQ (h.2 i (Go.ready_mono hi (by omega)))
      refine Go.wpOp_mono (fun a' w' h' => ih _ a' w' (inv.set hi hiL) ?_) h1
      rw [Array.setIfInBounds_comm _ _ (show i ≠ L by omega)]
      exact h'.2
    · have hall : ∀ i, i < L → listed.getD i true = true := fun i hi => by
        cases hu : listed.getD i true with
        | true => rfl
        | false => exact absurd ⟨i, hi, hu⟩ hex
      have hLr : L ∈ Region.ready md ops listed := by
        obtain ⟨j, hj, hr⟩ := reg_first_ready hb inv.size L (by omega) (inv.tail L (Nat.le_refl _) (by omega))
        by_cases e : j = L
        · exact e ▸ hr
        · have := (Go.mem_ready.1 hr).1
          rw [hall j (by omega)] at this
          cases this
      have hnil : Region.ready md ops (listed.setIfInBounds L true) = [] := by
        refine List.eq_nil_iff_forall_not_mem.2 fun j hj => ?_
        obtain ⟨hu, o, ho, _⟩ := Go.mem_ready.1 hj
        have hlt : j < ops.size := (Array.getElem?_eq_some_iff.1 ho).1
        by_cases e : j = L
        · subst e
          have := inv.size
          simp [this, hlt] at hu
        · rw [Go.getD_set_ne true (fun h => e h.symm), hall j (by omega)] at hu
          cases hu
      refine ⟨fun h0 => (by rw [h0] at hLr; cases hLr), fun i hi => ?_⟩
      have hiL : i = L := by
        obtain ⟨hu, o, ho, _⟩ := Go.mem_ready.1 hi
        have hlt : i < ops.size := (Array.getElem?_eq_some_iff.1 ho).1
        by_cases e : i < L
        · rw [hall i e] at hu; cases hu
        · omega
      subst hiL
      exact Go.wpOp_mono (fun a' w' h' => Go.wpAny_done hnil h' _) (h.1 hnil)
theorem wp_region_last {id : Nat} {a : Act} {w : World} (L : Nat) (hm : P.follows .mixedOrders = true) (hB : regLastB .any ops L = true) (hS : S w.drew)
    (h : S w.drew → Go.wpAnyH P .any ops (LastQ P ops L Q) S L ((Array.replicate ops.size false).setIfInBounds L true) a w.drew) : (Code.region id ops true).wp P Q a w := by
  unfold regLastB at hB
  simp only [Bool.and_eq_true, decide_eq_true_eq] at hB
  obtain ⟨⟨⟨hb, hs⟩, hc⟩, hL⟩ := hB
  refine Go.wp_region_any hm ?_
  have inv0 : HeadInv .any ops L (Array.replicate ops.size false) :=
    ⟨by simp, fun j oj _ hl => (by rw [Go.getD_replicate_false] at hl; cases hl), fun t _ ht => Go.getD_in (by simpa using ht) (Go.getD_replicate_false _ _)⟩
  have := wpAny_of_last (P := P) (Q := Q) (S := S) hb hs hc hL L _ a _ inv0 (h hS)
  rw [hL] at this
  exact this
theorem LastQ.go {L : Nat} {o : Oper} {a : Act} {w : World} (ho : ops[L]? = some o)
    (h : ∀ K' : Act → World → Prop, Shut (∀ a w, Q .normal a w → K' a w) → if Region.wanted o (yielded ops a.tmps) = true then Oper.wp P o a w K' Q else K' (a.put o.dst undef) w) : LastQ P ops L Q .normal a w :=
  Go.wpOp_step ho (fun K' hK => h K' hK)
end
end Go.Proofs.Ytgnmpjjlclbieaa
