/- Contracts of functions that the statement reaches. -/
import Derived.Test.YtfigcfajkilhiaaGreatE01
import Derived.Laws.BytesArg
import Derived.Laws.AppendOwnNone
import Derived.Test.YtfigcfajkilhiaaGreatRows
namespace Go.Proofs.YtfigcfajkilhiaaGreat
open Go.RowKit
def dec (n : Nat) : List UInt8 := if _h : n < 10 then [UInt8.ofNat (48 + n)] else dec (n / 10) ++ [UInt8.ofNat (48 + n % 10)]
termination_by n
decreasing_by omega
def bs (l : List UInt8) : ByteArray := ⟨l.toArray⟩
theorem dec_small {n : Nat} (h : n < 10) : dec n = [UInt8.ofNat (48 + n)] := by rw [dec, dif_pos h]
theorem dec_big {n : Nat} (h : ¬ n < 10) : dec n = dec (n / 10) ++ [UInt8.ofNat (48 + n % 10)] := by rw [dec, dif_neg h]
theorem bs_append (a b : List UInt8) : bs a ++ bs b = bs (a ++ b) := by
  apply Go.WideShapes.bytes_inj
  simp [bs]
theorem dec_length : ∀ (k n : Nat), 1 ≤ k → n < 10 ^ k → (dec n).length ≤ k
  | 0, _, h, _ => absurd h (by omega)
  | k + 1, n, _, h => by
    by_cases h1 : n < 10
    · rw [dec_small h1]; simp
    · have hk : 1 ≤ k := by
        rcases Nat.eq_zero_or_pos k with h0 | h0
        · subst h0; simp at h; omega
        · exact h0
      have := dec_length k (n / 10) hk (by rw [Nat.pow_succ] at h; omega)
      rw [dec_big h1]
      simp
      exact this
theorem bs_size (l : List UInt8) : (bs l).size = l.length := by simp [bs, ByteArray.size]
theorem dec_ne (n : Nat) : dec n ≠ [] := by
  by_cases h : n < 10
  · rw [dec_small h]; simp
  · rw [dec_big h]; simp
def jh (p : List UInt8) : List (List UInt8) → List (List UInt8)
  | [] => [p]
  | q :: qs => (p ++ q) :: qs
def spl (c : UInt8) : List UInt8 → List (List UInt8)
  | [] => [[]]
  | x :: xs => if x = c then [] :: spl c xs else jh [x] (spl c xs)
theorem jh_ne (p : List UInt8) (L : List (List UInt8)) : jh p L ≠ [] := by cases L <;> simp [jh]
theorem spl_ne (c : UInt8) : ∀ l, spl c l ≠ []
  | [] => by simp [spl]
  | x :: xs => by
    unfold spl
    split
    · simp
    · exact jh_ne _ _
theorem jh_nil {L : List (List UInt8)} (h : L ≠ []) : jh [] L = L := by
  cases L with
  | nil => exact absurd rfl h
  | cons q qs => rfl
theorem jh_jh (p q : List UInt8) (L : List (List UInt8)) : jh p (jh q L) = jh (p ++ q) L := by cases L <;> simp [jh]
theorem spl_sep (c : UInt8) (xs : List UInt8) : spl c (c :: xs) = [] :: spl c xs := by rw [spl, if_pos rfl]
theorem spl_other {c x : UInt8} (h : x ≠ c) (xs : List UInt8) : spl c (x :: xs) = jh [x] (spl c xs) := by rw [spl, if_neg h]
theorem spl_step {c : UInt8} {l cut : List UInt8} {k : Nat} (h : k < l.length) (hc : l[k] ≠ c) : jh cut (spl c (l.drop k)) = jh (cut ++ [l[k]]) (spl c (l.drop (k + 1))) := by
  rw [List.drop_eq_getElem_cons h, spl_other hc, jh_jh]
theorem spl_cut {c : UInt8} {l cut : List UInt8} {k : Nat} (h : k < l.length) (hc : l[k] = c) : jh cut (spl c (l.drop k)) = cut :: spl c (l.drop (k + 1)) := by
  rw [List.drop_eq_getElem_cons h, hc, spl_sep]
  simp [jh]
theorem spl_last {c : UInt8} {l cut : List UInt8} {k : Nat} (h : ¬ k < l.length) : jh cut (spl c (l.drop k)) = [cut] := by
  rw [List.drop_eq_nil_of_le (by omega)]
  simp [spl, jh]
def bl (s : ByteArray) : List UInt8 := s.data.toList
theorem bs_bl (s : ByteArray) : bs (bl s) = s := rfl
theorem bl_length (s : ByteArray) : (bl s).length = s.size := by rw [bl, Array.length_toList]; rfl
theorem bl_get (s : ByteArray) {k : Nat} (h : k < s.size) : (bl s)[k]'(by rw [bl_length]; exact h) = s[k] := rfl
theorem bl_inj {a b : ByteArray} (h : bl a = bl b) : a = b := by rw [← bs_bl a, h]; rfl
theorem ext_bs (s : ByteArray) (f k : Nat) : s.extract f k = bs (((bl s).take k).drop f) := by
  apply bl_inj
  simp [bl, bs, ByteArray.data_extract, Array.toList_extract, List.drop_take]
def splB (c : UInt8) (s : ByteArray) : List ByteArray := (spl c (bl s)).map bs
def SplI (c : UInt8) (s : ByteArray) (f k : Nat) (ds : List ByteArray) : Prop := ds ++ (jh (((bl s).take k).drop f) (spl c ((bl s).drop k))).map bs = splB c s
theorem SplI.start (c : UInt8) (s : ByteArray) : SplI c s 0 0 [] := by simp [SplI, splB, jh_nil (spl_ne c _)]
theorem SplI.step {c : UInt8} {s : ByteArray} {f k : Nat} {ds : List ByteArray} (h : SplI c s f k ds) (hk : k < s.size) (hf : f ≤ k) (hc : s[k] ≠ c) : SplI c s f (k + 1) ds := by
  unfold SplI at h ⊢
  have hk' : k < (bl s).length := by rw [bl_length]; exact hk
  rw [spl_step hk' (by rw [bl_get s hk]; exact hc)] at h
  rw [← h, List.take_succ_eq_append_getElem hk', List.drop_append_of_le_length (by simp; omega)]
theorem SplI.cut {c : UInt8} {s : ByteArray} {f k : Nat} {ds : List ByteArray} (h : SplI c s f k ds) (hk : k < s.size) (hc : s[k] = c) : SplI c s (k + 1) (k + 1) (ds ++ [s.extract f k]) := by
  unfold SplI at h ⊢
  have hk' : k < (bl s).length := by rw [bl_length]; exact hk
  rw [spl_cut hk' (by rw [bl_get s hk]; exact hc)] at h
  rw [← h, (show ((bl s).take (k + 1)).drop (k + 1) = [] from List.drop_eq_nil_of_le (by simp; omega)), jh_nil (spl_ne c _), ext_bs]
  simp
theorem SplI.last {c : UInt8} {s : ByteArray} {f k : Nat} {ds : List ByteArray} (h : SplI c s f k ds) (hk : ¬ k < s.size) : ds ++ [s.extract f k] = splB c s := by
  unfold SplI at h
  rw [spl_last (by rw [bl_length]; exact hk)] at h
  rw [← h, ext_bs]
  simp
end Go.Proofs.YtfigcfajkilhiaaGreat
namespace Go.Proofs.YtfigcfajkilhiaaGreat
open Go.RowKit
def vU : VE UInt8 := fun _ c b => c = [.int .u8 b.toNat]
def sU : SE UInt8 := fun _ c b F => c = [.int .u8 b.toNat] ∧ F = []
instance : VMono vU := ⟨fun h => h⟩
instance : SMono sU := ⟨fun h b hb => by rw [h.2] at hb; simp at hb, fun h _ => h⟩
instance : SPlain sU := ⟨fun h => h.2⟩
abbrev RU := RV 1 vU
theorem addr_add (b o j : Nat) : (⟨b, o, none⟩ : Addr).add j = ⟨b, o + j, none⟩ := by
  unfold Addr.add
  split
  · rename_i h; subst h; rfl
  · rfl
theorem RV.cells {α : Type} {size : Nat} {V : VE α} {E : SE α} {w : World} (hVE : ∀ c d, V w c d → E w c d []) (h1 : ∀ c d, V w c d → ∀ u ∈ c, u.oneCell' = true) {b : Nat} :
    ∀ (es : List α) (o : Nat), (∀ j (h : j < es.length), ∃ c : List Value, c.length = size ∧ (∀ i (hi : i < c.length), w.cell? ⟨b, o + j * size + i, none⟩ = some c[i]) ∧ V w c es[j]) →
    ∃ cs : List Value, (∀ j u, cs[j]? = some u → w.cell? ((⟨b, o, none⟩ : Addr).add j) = some u) ∧ elems size E w cs es [] ∧ ∀ u ∈ cs, u.oneCell' = true
  | [], _, _ => ⟨[], by simp, ⟨rfl, rfl⟩, by simp⟩
  | e :: es, o, h => by
    obtain ⟨c, hc, hr, he⟩ := h 0 (by simp)
    obtain ⟨cs, k1, k2, k3⟩ := RV.cells hVE h1 es (o + size) (fun j hj => by
      obtain ⟨c, hc, hr, he⟩ := h (j + 1) (by simpa using hj)
      refine ⟨c, hc, fun i hi => ?_, by simpa using he⟩
      rw [← hr i hi]
      congr 2
      rw [Nat.add_mul]; omega)
    refine ⟨c ++ cs, fun j u hj => ?_, ⟨c, cs, [], [], rfl, hc, hVE _ _ he, k2, rfl⟩, fun u hu => ?_⟩
    · by_cases hlt : j < c.length
      · rw [List.getElem?_append_left hlt, List.getElem?_eq_getElem hlt] at hj
        injection hj with hj
        have := hr j hlt
        simp at this
        rw [← hj, ← this, addr_add]
      · rw [List.getElem?_append_right (by omega)] at hj
        have := k1 _ u hj
        rw [← this, addr_add, addr_add]
        congr 2
        omega
    · rcases List.mem_append.1 hu with h | h
      · exact h1 _ _ he u h
      · exact k3 u h
section
variable {P : Program} {w : World}
theorem wpList_appL {ops : Array Oper} {rest : List Oper} {o : Oper} {a : Act} {Q : Exit → Act → World → Prop} (hgd : o.guard = none) (s x : Operand) (t : TypeId)
    (ho : o.op = .call { callee := .builtin .append, args := #[s, x], argTypes := #[t, t] })
    {α : Type} {E : SE α} [SMono E] [SPlain E] {V : VE α} {te size bytes : Nat} {z : Value} (hT : SlT P t te size bytes z) {v : Value} {ds es : List α} {F : List Nat} (hs : a.eval s = v) (hS : SV te size E w v ds F)
    {A : Option Addr} {c : Nat} (hx : a.eval x = .slice A es.length c) (hc : A = none → c = 0) (hV : RV size V w A es) (hVE : ∀ c d, V w c d → E w c d []) (h1 : ∀ c d, V w c d → ∀ u ∈ c, u.oneCell' = true)
    (hlen : ds.length + es.length ≤ 2000000000) (hby : bytes ≤ 60000)
    (h : ∀ v' w' F', SV te size E w' v' (ds ++ es) F' → Chg F w w' → (∀ b ∈ F', b ∈ F ∨ w.heap.size ≤ b) → wpList P ops Q rest (a.put o.dst v') w') : wpList P ops Q (o :: rest) a w := by
  cases A with
  | none =>
    have e0 : es = [] := Classical.byContradiction fun hn => by
      obtain ⟨b, o, h, _⟩ := hV hn
      cases h
    subst e0
    obtain ⟨ht, hi, _, _⟩ := hT
    obtain ⟨i, hi, _, _, _⟩ := info_parts hi
    rw [hc rfl] at hx
    have hS' := hS
    obtain ⟨vs, F2, ho', _, _⟩ := hS'
    exact wpList_append_own_none hgd s x t ho 0 te i size ht hi v ds.length vs hs ho' hx (h v w F (by simpa using hS) (Chg.refl F w) fun b hb => .inl hb)
  | some ad =>
    have hN := hS.nodup
    have key : ∃ cs : List Value, (∀ j u, cs[j]? = some u → w.cell? (ad.add j) = some u) ∧ elems size E w cs es [] ∧ ∀ u ∈ cs, u.oneCell' = true := by
      by_cases hn : es = []
      · subst hn
        exact ⟨[], by simp, ⟨rfl, rfl⟩, by simp⟩
      · obtain ⟨b, o, e, _, h3⟩ := hV hn
        injection e with e
        subst e
        exact RV.cells hVE h1 es o h3
    obtain ⟨cs, k1, k2, k3⟩ := key
    refine wpList_appS _ hgd s x t ho hT hs hS hN hx k1 k3 rfl k2 (by simpa using hN) hlen hby ?_
    intro v' w' F' h2 h3 _ h5
    exact h v' w' F' h2 h3 fun b hb => by
      rcases h5 b hb with h | h | h
      · exact .inl h
      · simp at h
      · exact .inr h
theorem SV.cap0 {α : Type} {te size : Nat} {E : SE α} {ds : List α} {F : List Nat} {A : Option Addr} {n c : Nat} (h : SV te size E w (.slice A n c) ds F) (hA : A = none) : c = 0 := by
  obtain ⟨vs, F2, h1, _, _⟩ := h
  rcases h1.2 with ⟨h2, _⟩ | ⟨g, cap, cur, h2, _⟩
  · injection h2
  · injection h2 with h2
    rw [hA] at h2; cases h2
end
end Go.Proofs.YtfigcfajkilhiaaGreat
namespace Go.Proofs.YtfigcfajkilhiaaGreat
open Go.RowKit
abbrev At := ByteArray × List Int
theorem conv1m (w : World) (b o cap : Nat) (n : Int) (h : w.cell? ⟨b, o, none⟩ = some (.int .u8 n)) : (convert 130 9 (.slice (some ⟨b, o, none⟩) 1 cap)).run Tryz.prog w = .ok (.string (bs [UInt8.ofNat n.toNat])) w :=
  run_convert_bytes_arg w _ _ Tryz.underlying130 Tryz.underlying5 b o 1 cap [n] rfl (fun i hi => by
    have : i = 0 := by omega
    subst this
    simpa using h) _ Tryz.underlying9
def mtx (k : Int) : ByteArray := if k ≤ 0 then ⟨#[109, 48]⟩ else bs (109 :: dec k.toNat)
set_option maxHeartbeats 1000000 in
theorem markText_any {k : Int} {w : World} (hk : k ≤ 100000000000) :
    Calls Tryz.prog 86 #[.int .i64 k] w fun e w' => e = .returned (.string (mtx k)) ∧ ∃ y, w' = ext w y := by
  by_cases h0 : k ≤ 0
  · rw [show mtx k = ⟨#[109, 48]⟩ by unfold mtx; rw [if_pos h0]]
    go_enter Tryz.func86, Tryz.ntmps86
    go_wp2
    go_ret
    exact ⟨rfl, refl_ext w⟩
  · rw [show mtx k = bs (109 :: dec k.toNat) by unfold mtx; rw [if_neg h0]]
    have kc := conv1m
    obtain ⟨D, hD⟩ : ∃ D, dec k.toNat = D := ⟨_, rfl⟩
    have hl : D.length ≤ 20 := by rw [← hD]; have := dec_length 19 k.toNat (by omega) (by omega); omega
    rw [hD]
    go_enter Tryz.func86, Tryz.ntmps86
    go_wp2
    go_loopw [0, 3] (fun m v wr => ∃ (n : Nat) (acc : List UInt8), m = .int .i64 n ∧ v = .string (bs acc) ∧ n ≤ 100000000000 ∧ (if n = 0 then acc else dec n ++ acc) = D ∧ acc.length ≤ 20 ∧ ∃ y, wr = ext w y) (fun m _ _ => (intOf m).toNat)
    case atStart => exact ⟨k.toNat, [], by congr 1; omega, rfl, by omega, by rw [if_neg (by omega)]; simpa using hD, by simp, refl_ext w⟩
    case round =>
      obtain ⟨n, acc, rfl, rfl, hn, hj, ha, hy⟩ := hrel
      have Hj := Lib.hid hj
      clear hj hD
      by_cases hp : 0 < n
      · have hp' : (0 : Int) < n := by omega
        have hp2 : (0 : Int) ≤ n := by omega
        have hsz : (bs acc).size ≤ 20 := by rw [bs_size]; exact ha
        have hs1 : (bs [48 + UInt8.ofNat (n % 10)]).size = 1 := bs_size _
        have HA := Lib.hid (bs_append [48 + UInt8.ofNat (n % 10)] acc)
        have hjo := Hj.out
        rw [if_neg (by omega : ¬ n = 0)] at hjo
        have hd : UInt8.ofNat (48 + n % 10) = 48 + UInt8.ofNat (n % 10) := UInt8.ofNat_add _ _
        have HE := Lib.hid (show (if n / 10 = 0 then (48 + UInt8.ofNat (n % 10)) :: acc else dec (n / 10) ++ ((48 + UInt8.ofNat (n % 10)) :: acc)) = D by
          rw [← hjo, ← hd]
          by_cases h10 : n < 10
          · rw [if_pos (by omega), dec_small h10, show n % 10 = n by omega]
            rfl
          · rw [if_neg (by omega), dec_big h10]
            simp)
        have hal : acc.length + 1 ≤ D.length := by
          rw [← hjo, List.length_append]
          have := List.length_pos_iff.2 (dec_ne n)
          omega
        clear hjo hd
        go_wp2
        exact ⟨⟨n / 10, (48 + UInt8.ofNat (n % 10)) :: acc, by congr 1, by rw [HA.out]; rfl, by omega, HE.out, by simp only [List.length_cons]; omega, (by refine x'z ?_; repeat (with_reducible (first | exact x'a _ _ | exact x'b _ | exact x'c (by assumption) | refine x'd ?_ (by assumption) | refine x'e ?_ _ | refine x'f ?_ _ | refine x'g ?_ | refine x'h ?_ ?_ _ | refine x'i ?_ _ | refine x'j ?_ | refine x'k ?_ _ | refine x'l ?_ _ _ | refine x'm ?_ | assumption | (refine x'n ?_; omega) | omega)))⟩, by simp [intOf]; omega⟩
      · have e0 : n = 0 := by omega
        subst e0
        have hsz : (bs acc).size ≤ 20 := by rw [bs_size]; exact ha
        have hs1 : (ByteArray.mk #[109]).size = 1 := rfl
        have e := Hj.out
        rw [if_pos rfl] at e
        have He := Lib.hid e
        clear e
        go_wp2
        go_ret
        exact ⟨by rw [← He.out, show (109 :: acc) = [109] ++ acc from rfl, ← bs_append]; rfl, hy⟩
abbrev vAt : VE At := vP 1 vS (vSl 1 vI)
abbrev sAt : SE At := sP 1 sS (sSl 3 1 sI)
abbrev vAts : VE (List At) := vSl 2 vAt
abbrev sAts : SE (List At) := sSl 72 2 sAt
theorem sAt_v {w : World} (c : List Value) (d : At) (F : List Nat) (h : sAt w c d F) : vAt w c d := sP_v sS_v (sSl_v sI_v) c d F h
theorem sAts_v {w : World} (c : List Value) (d : List At) (F : List Nat) (h : sAts w c d F) : vAts w c d := sSl_v sAt_v c d F h
def QAt (d : At) : Prop := d.1.size ≤ maxLen ∧ d.2.length ≤ maxLen
def QAts (d : List At) : Prop := d.length ≤ maxLen ∧ ∀ x ∈ d, QAt x
def cAt (x : At) : Nat := x.1.size + x.2.length
def BAts (d : List At) : Prop := d.length ≤ 1048576 ∧ (d.map cAt).sum ≤ 1048576
theorem BAts.each {d : List At} (h : BAts d) : ∀ x ∈ d, x.1.size ≤ 1048576 ∧ x.2.length ≤ 1048576 := fun x hx => by
  have h1 := sum_each (c := cAt) hx
  have h2 := h.2
  unfold cAt at h1 h2
  omega
def szAt (l : Int) (x : At) : Int := szA l x.1.size x.2.length
theorem szAt_sub (l : Int) (x : At) (h : 0 ≤ szAt l x) : szAt l x ≤ l - cAt x := by
  unfold szAt szA at h ⊢
  split at h
  · omega
  · rename_i h1
    rw [if_neg h1]
    have := szL_sub h
    unfold cAt
    omega
theorem szAts_le {left : Int} {xs : List At} (h : 0 ≤ szN szAt left xs) : szN szAt left xs ≤ left := szN_le (fun l x h => by have := szAt_sub l x h; omega) h
theorem szAts_small {left : Int} {xs : List At} (h : 0 ≤ szN szAt left xs) (hl : left ≤ 1048576) : BAts xs := by
  have := szN_small (c := cAt) szAt_sub h
  exact ⟨by omega, by omega⟩
theorem RV.atA {w : World} {A : Option Addr} {d : List At} {k : Nat} (h : RV 2 vAt w A d) (hk : k < d.length) : ∃ b o A' c', A = some ⟨b, o, none⟩ ∧ b < w.heap.size ∧ w.cell? ⟨b, o + k * 2, none⟩ = some (.string d[k].1) ∧ w.cell? ⟨b, o + k * 2 + 1, none⟩ = some (.slice A' d[k].2.length c') ∧ RI w A' d[k].2 := by
  obtain ⟨b, o, h1, h2, c, hc, hr, c0, c1, e, _, hs, A', c', rfl, hv⟩ := h.get hk
  simp only [vS] at hs
  subst hs e
  exact ⟨b, o, A', _, h1, h2, by simpa using hr 0 (by simp), by simpa using hr 1 (by simp), hv⟩
theorem vAts_get {w : World} {A : Option Addr} {n c : Nat} {d : List At} (h : vAts w [.slice A n c] d) : n = d.length ∧ RV 2 vAt w A d := by
  obtain ⟨A', c', e, h⟩ := h
  injection e with e
  injection e with e1 e2 e3
  subst e1
  exact ⟨e2, h⟩
set_option maxHeartbeats 1000000 in
theorem szAtomS_d {A : Option Addr} {c : Nat} {d : List At} {left : Int} {w : World} (hq : QAts d) (h : vAts w [.slice A d.length c] d) (h1 : 0 ≤ left) (h2 : left ≤ 1000000000) :
    Calls Tryz.prog 28 #[.slice A d.length c, .int .i64 left] w fun e w' => e = .returned (.int .i64 (szN szAt left d)) ∧ ∃ y, w' = ext w y := by
  have hn := le_maxLen hq.1
  have Hl := Lib.hid hq.2
  have h := (vAts_get h).2
  clear hq
  by_cases h0 : left - d.length < 0
  · rw [show szN szAt left d = -1 by unfold szN; rw [if_pos h0]]
    go_enter Tryz.func28, Tryz.ntmps28
    go_wp2
    go_ret
    exact ⟨rfl, refl_ext w⟩
  · rw [show szN szAt left d = szG szAt (left - d.length) d by unfold szN; rw [if_neg h0]]
    go_enter Tryz.func28, Tryz.ntmps28
    go_wp2
    go_loopw [1, 5] (fun m i wr => ∃ (k : Nat) (l : Int), m = .int .i64 l ∧ i = .int .i64 k ∧ k ≤ d.length ∧ 0 ≤ l ∧ l ≤ left ∧ szG szAt l (d.drop k) = szG szAt (left - d.length) d ∧ ∃ y, wr = ext w y) (fun _ i _ => d.length - (intOf i).toNat)
    case atStart => exact ⟨0, left - d.length, rfl, rfl, by omega, by omega, by omega, by simp, refl_ext w⟩
    case round =>
      obtain ⟨k, l, rfl, rfl, hk, hl0, hl1, hj, hy⟩ := hrel
      have Hj := Lib.hid hj
      clear hj
      by_cases hlt : k < d.length
      · obtain ⟨b, o, A', c', rfl, hb, hc, hd, hv⟩ := (h.toExt hy).atA hlt
        have hle := Hl.out d[k] (List.getElem_mem hlt)
        have hle1 := le_maxLen hle.1
        have hle2 := le_maxLen hle.2
        clear hle
        by_cases hs : 0 ≤ szAt l d[k]
        · have e := Hj.out
          rw [szG_step hlt hs] at e
          have he := szAt_sub l d[k] hs
          obtain ⟨r, hr⟩ : ∃ r, szAt l d[k] = r := ⟨_, rfl⟩
          rw [hr] at e hs he
          have He := Lib.hid e
          have Hr := Lib.hid hr
          clear e hr
          go_wp2_with (go_at_call 61; refine (szAtom_any hle1 hle2 (by omega) (by omega)).mono ?_; rintro e w' ⟨rfl, hx9⟩; rw [show szA l d[k].1.size d[k].2.length = r from Hr.out])
          exact ⟨⟨k + 1, r, rfl, by go_num, by omega, by omega, by omega, He.out, (by refine x'z ?_; repeat (with_reducible (first | exact x'a _ _ | exact x'b _ | exact x'c (by assumption) | refine x'd ?_ (by assumption) | refine x'e ?_ _ | refine x'f ?_ _ | refine x'g ?_ | refine x'h ?_ ?_ _ | refine x'i ?_ _ | refine x'j ?_ | refine x'k ?_ _ | refine x'l ?_ _ _ | refine x'm ?_ | assumption | (refine x'n ?_; omega) | omega)))⟩, by simp [intOf]; omega⟩
        · have hs : szAt l d[k] < 0 := by omega
          have e := Hj.out
          rw [szG_stop hlt hs] at e
          obtain ⟨r, hr⟩ : ∃ r, szAt l d[k] = r := ⟨_, rfl⟩
          rw [hr] at hs
          have He := Lib.hid e
          have Hr := Lib.hid hr
          clear e hr
          go_wp2_with (go_at_call 61; refine (szAtom_any hle1 hle2 (by omega) (by omega)).mono ?_; rintro e w' ⟨rfl, hx9⟩; rw [show szA l d[k].1.size d[k].2.length = r from Hr.out])
          go_ret
          exact ⟨by rw [← He.out]; rfl, (by refine x'z ?_; repeat (with_reducible (first | exact x'a _ _ | exact x'b _ | exact x'c (by assumption) | refine x'd ?_ (by assumption) | refine x'e ?_ _ | refine x'f ?_ _ | refine x'g ?_ | refine x'h ?_ ?_ _ | refine x'i ?_ _ | refine x'j ?_ | refine x'k ?_ _ | refine x'l ?_ _ _ | refine x'm ?_ | assumption | (refine x'n ?_; omega) | omega)))⟩
      · go_wp2
        go_ret
        have e := Hj.out
        rw [szG_end hlt] at e
        exact ⟨by rw [← e]; rfl, hy⟩
theorem tA : SlT Tryz.prog 41 72 2 40 (.agg #[.string ⟨#[]⟩, .slice none 0 0]) := ⟨Tryz.underlying41, by kernel_rfl, rfl, by omega⟩
theorem sAts_form {w : World} {v : Value} {d : List At} {F : List Nat} (h : sAts w [v] d F) : ∃ A c, v = .slice A d.length c := by
  obtain ⟨v', e, h⟩ := h
  injection e with e
  subst e
  obtain ⟨A, c, e, _⟩ := h.form
  exact ⟨A, c, e⟩
set_option maxHeartbeats 1000000 in
theorem toAtomS_d {A : Option Addr} {c : Nat} {d : List At} {w : World} (hb : BAts d) (h : vAts w [.slice A d.length c] d) :
    Calls Tryz.prog 37 #[.slice A d.length c] w fun e w' => ∃ v F, e = .returned v ∧ (∃ y, w' = ext w y) ∧ sAts w' [v] d F ∧ F.Nodup ∧ ∀ b ∈ F, w.heap.size ≤ b := by
  have hx := hb.1
  have Hl := Lib.hid hb.each
  have h1 := (vAts_get h).2
  clear hb h
  go_enter Tryz.func37, Tryz.ntmps37
  go_wp2_with (at_make; refine wpList_makeF (E := sAt) _ rfl _ _ _ rfl tA rfl rfl d (by omega) (by omega) ?_; intro w1 hS hx1 hg1)
  go_loopw [4] (fun i wr => ∃ (k : Nat) (F : List Nat), i = .int .i64 k ∧ k ≤ d.length ∧ Fill 72 2 sAt wr (.slice (some ⟨w.heap.size, 0, none⟩) d.length d.length) d.length [.string ⟨#[]⟩, .slice none 0 0] d k F ∧ F.Nodup ∧ (∀ b ∈ F, w.heap.size ≤ b) ∧ ∃ y, wr = ext w y) (fun i _ => d.length - (intOf i).toNat)
  case atStart => exact ⟨0, _, rfl, by omega, hS, by simp, by simp, hx1⟩
  case round =>
    obtain ⟨k, F, rfl, hk, hSk, hN, hF, hy⟩ := hrel
    have HF := Lib.hid hF
    have HN := Lib.hid hN
    clear hF hN
    by_cases hlt : k < d.length
    · obtain ⟨b, o, A', c', rfl, hb, hc, hd, hv⟩ := (h1.toExt hy).atA hlt
      have hle := (Hl.out d[k] (List.getElem_mem hlt)).2
      clear hS hx1
      go_wp2_with (go_at_call 75; refine (toAtom_any hle hv).mono ?_; rintro e w2 ⟨v2, F2, rfl, hx2, hS2, hF2⟩; obtain ⟨A2, c2, rfl, _⟩ := hS2.form; have HS := Lib.hid (hSk.toExt hx2); have Hc := HS.out.cell (j := k * 2) (by omega); have Hd := HS.out.cell (j := k * 2 + 1) (by omega); obtain ⟨⟨u, hu⟩, hf, hg⟩ := Hc; obtain ⟨⟨u', hu'⟩, hf', _⟩ := Hd)
      obtain ⟨h3, h4⟩ := HS.out.put2 hlt rfl (Fk := F2) (by simpa using sP_mk (F0 := []) ⟨rfl, rfl⟩ ⟨_, rfl, hS2⟩) (nodup_more HN.out hS2.nodup hSk.lt hF2)
      exact ⟨⟨k + 1, F ++ F2, by go_num, by omega, h3, nodup_more HN.out hS2.nodup hSk.lt hF2, fun b hb => by
        rcases List.mem_append.1 hb with h | h
        · exact HF.out b h
        · exact Nat.le_trans (size_of_ext hy) (hF2 b h), (h4.isExt (trans_ext hy hx2) (by simp))⟩, by simp [intOf]; omega⟩
    · go_wp2
      go_ret
      exact ⟨_, F, rfl, hy, ⟨_, rfl, hSk.done rfl (by omega)⟩, HN.out, HF.out⟩
set_option maxHeartbeats 1000000 in
theorem eqAtomS_d {A A' : Option Addr} {c c' : Nat} {d d' : List At} {w : World} (hb : BAts d) (h : vAts w [.slice A d.length c] d) (hb' : BAts d') (h' : vAts w [.slice A' d'.length c'] d') :
    Calls Tryz.prog 45 #[.slice A d.length c, .slice A' d'.length c'] w fun e w' => e = .returned (.bool (decide (d = d'))) ∧ ∃ y, w' = ext w y := by
  have hx := hb.1
  have hy := hb'.1
  have Hxl := Lib.hid hb.each
  have Hyl := Lib.hid hb'.each
  have h1 := (vAts_get h).2
  have h2 := (vAts_get h').2
  clear hb hb' h h'
  by_cases hl : d.length = d'.length
  · have hn : ((d.length : Int) != (d'.length : Int)) = false := by simp [hl]
    have hl2 : d'.length ≤ d.length := by omega
    have hl3 : d.length ≤ d'.length := by omega
    have HL := Lib.hid hl
    clear hl
    go_enter Tryz.func45, Tryz.ntmps45
    go_wp2
    go_loopw [5] (fun i wr => ∃ k : Nat, i = .int .i64 k ∧ k ≤ d.length ∧ d.take k = d'.take k ∧ ∃ y, wr = ext w y) (fun i _ => d.length - (intOf i).toNat)
    case atStart => exact ⟨0, rfl, by omega, by simp, refl_ext w⟩
    case round =>
      obtain ⟨k, rfl, hk, ht, hw⟩ := hrel
      have Ht := Lib.hid ht
      clear ht
      by_cases hlt : k < d.length
      · have hlt2 : k < d'.length := by omega
        obtain ⟨b, o, A1, c1, rfl, hb, hc, hd, hv⟩ := (h1.toExt hw).atA hlt
        obtain ⟨b', o', A2, c2, rfl, hb', hc', hd', hv'⟩ := (h2.toExt hw).atA hlt2
        have q1 : d[k].2.length ≤ 1000000000 := by have := (Hxl.out d[k] (List.getElem_mem hlt)).2; omega
        have q2 : d'[k].2.length ≤ 1000000000 := by have := (Hyl.out d'[k] (List.getElem_mem hlt2)).2; omega
        by_cases he : d[k] = d'[k]
        · have He := Lib.hid he
          have Hd := Lib.hid (show decide ((d[k].1, d[k].2) = (d'[k].1, d'[k].2)) = true by simp [he])
          clear he
          go_wp2
          refine wp_region_ext (by kernel_rfl) (by kernel_rfl) ?_
          repeat (go_big_quiet_step ((go_at_call 85; exact quietEb (eqAtom_any q1 hv.ext q2 hv'.ext) Hd.out)))
          refine wpQuiet_nil ?_
          rintro _ ⟨z, rfl⟩
          go_wp2
          exact ⟨⟨k + 1, by go_num, by omega, take_snoc_eq _ _ Ht.out He.out, (by refine x'z ?_; repeat (with_reducible (first | exact x'a _ _ | exact x'b _ | exact x'c (by assumption) | refine x'd ?_ (by assumption) | refine x'e ?_ _ | refine x'f ?_ _ | refine x'g ?_ | refine x'h ?_ ?_ _ | refine x'i ?_ _ | refine x'j ?_ | refine x'k ?_ _ | refine x'l ?_ _ _ | refine x'm ?_ | assumption | (refine x'n ?_; omega) | omega)))⟩, by simp [intOf]; omega⟩
        · have He := Lib.hid he
          have Hd := Lib.hid (show decide ((d[k].1, d[k].2) = (d'[k].1, d'[k].2)) = false from decide_eq_false he)
          clear he
          go_wp2
          refine wp_region_ext (by kernel_rfl) (by kernel_rfl) ?_
          repeat (go_big_quiet_step ((go_at_call 85; exact quietEb (eqAtom_any q1 hv.ext q2 hv'.ext) Hd.out)))
          refine wpQuiet_nil ?_
          rintro _ ⟨z, rfl⟩
          go_wp2
          go_ret
          exact ⟨by rw [decide_eq_false (ne_of_at hlt hlt2 He.out)]; rfl, (by refine x'z ?_; repeat (with_reducible (first | exact x'a _ _ | exact x'b _ | exact x'c (by assumption) | refine x'd ?_ (by assumption) | refine x'e ?_ _ | refine x'f ?_ _ | refine x'g ?_ | refine x'h ?_ ?_ _ | refine x'i ?_ _ | refine x'j ?_ | refine x'k ?_ _ | refine x'l ?_ _ _ | refine x'm ?_ | assumption | (refine x'n ?_; omega) | omega)))⟩
      · go_wp2
        go_ret
        exact ⟨by rw [decide_eq_true (all_eq HL.out hlt Ht.out)]; rfl, hw⟩
  · have hn : ((d.length : Int) != (d'.length : Int)) = true := by simp; omega
    go_enter Tryz.func45, Tryz.ntmps45
    go_wp2
    go_ret
    exact ⟨by rw [decide_eq_false (by rintro rfl; exact hl rfl)]; rfl, refl_ext w⟩
end Go.Proofs.YtfigcfajkilhiaaGreat
namespace Go.Proofs.YtfigcfajkilhiaaGreat
open Go.RowKit
abbrev Qd := Int × (List At × List Int)
abbrev vQ : VE Qd := vP 1 vI (vP 1 vAts (vSl 1 vI))
abbrev sQ : SE Qd := sP 1 sI (sP 1 sAts (sSl 3 1 sI))
theorem sQ_v {w : World} (c : List Value) (d : Qd) (F : List Nat) (h : sQ w c d F) : vQ w c d := sP_v sI_v (sP_v sAts_v (sSl_v sI_v)) c d F h
def QQ (d : Qd) : Prop := I64 d.1 ∧ QAts d.2.1 ∧ d.2.2.length ≤ maxLen
def BQ (d : Qd) : Prop := I64 d.1 ∧ BAts d.2.1 ∧ d.2.2.length ≤ 1048576
def WQ (d : Qd) : Prop := I64 d.1 ∧ (d.2.1.length ≤ 4194304 ∧ ∀ x ∈ d.2.1, x.1.size ≤ 4194304 ∧ x.2.length ≤ 4194304) ∧ d.2.2.length ≤ 4194304
theorem BQ.w {d : Qd} (h : BQ d) : WQ d := ⟨h.1, ⟨by have := h.2.1.1; omega, fun x hx => by have := h.2.1.each x hx; omega⟩, by have := h.2.2; omega⟩
def szQ (left : Int) (d : Qd) : Int := if szN szAt left d.2.1 < 0 then -1 else szL (szN szAt left d.2.1) d.2.2.length
theorem szL_neg {l : Int} {n : Nat} (h : szL l n < 0) : szL l n = -1 := by
  unfold szL at h ⊢
  split
  · rfl
  · rename_i h1; rw [if_neg h1] at h; omega
theorem szQ_parts {left : Int} {d : Qd} (h : 0 ≤ szQ left d) : 0 ≤ szN szAt left d.2.1 ∧ 0 ≤ szL (szN szAt left d.2.1) d.2.2.length ∧ szQ left d = szL (szN szAt left d.2.1) d.2.2.length := by
  unfold szQ at h ⊢
  split at h
  · omega
  · rename_i h1
    rw [if_neg h1]
    exact ⟨by omega, h, rfl⟩
theorem szQ_le {left : Int} {d : Qd} (h : 0 ≤ szQ left d) : szQ left d ≤ left := by
  obtain ⟨h1, h2, e⟩ := szQ_parts h
  rw [e]
  have := szAts_le h1
  have := szL_le h2
  omega
theorem szQ_small {left : Int} {d : Qd} (hq : I64 d.1) (h : 0 ≤ szQ left d) (hl : left ≤ 1048576) : BQ d := by
  obtain ⟨h1, h2, _⟩ := szQ_parts h
  have := szAts_le h1
  have := szL_small h2
  exact ⟨hq, szAts_small h1 hl, by omega⟩
theorem vQ_shape {w : World} {c : List Value} {d : Qd} (h : vQ w c d) : ∃ A a B b, c = [.int .i64 d.1, .slice A d.2.1.length a, .slice B d.2.2.length b] := by
  obtain ⟨c0, c1, e0, h0, h1, c2, c3, e1, h2, ⟨A2, d2, rfl, k2⟩, A3, d3, rfl, k3⟩ := h
  simp only [vI] at h1
  subst e1 h1
  exact ⟨_, _, _, _, e0⟩
theorem vQ_get {w : World} {A B : Option Addr} {c e : Nat} {n m : Nat} {z : Int} {d : Qd} (h : vQ w [.int .i64 z, .slice A n c, .slice B m e] d) : vAts w [.slice A n c] d.2.1 ∧ RI w B d.2.2 ∧ d.2.2.length ≤ e := by
  obtain ⟨c0, c1, e0, h0, h1, c2, c3, e1, h2, ⟨A2, d2, rfl, k2⟩, A3, d3, rfl, k3⟩ := h
  simp only [vI] at h1
  subst e1 h1
  simp only [List.cons_append, List.nil_append, List.cons.injEq, Value.slice.injEq, and_true] at e0
  obtain ⟨q0, ⟨q1, q2, q3⟩, q4, q5, q6⟩ := e0
  subst q1 q2 q3 q4 q5 q6
  exact ⟨⟨_, _, rfl, k2⟩, k3, by omega⟩
set_option maxHeartbeats 1000000 in
theorem szQuery_d {A B : Option Addr} {c e1 : Nat} {d : Qd} {left : Int} {w : World} (hq : QQ d) (h : vQ w [.int .i64 d.1, .slice A d.2.1.length c, .slice B d.2.2.length e1] d) (h1 : 0 ≤ left) (h2 : left ≤ 1000000000) :
    Calls Tryz.prog 6 #[.agg #[.int .i64 d.1, .slice A d.2.1.length c, .slice B d.2.2.length e1], .int .i64 left] w fun e w' => e = .returned (.int .i64 (szQ left d)) ∧ ∃ y, w' = ext w y := by
  obtain ⟨r1, r2, _⟩ := vQ_get h
  obtain ⟨_, q1, q2⟩ := hq
  have m2 := le_maxLen q2
  obtain ⟨l1, hl1⟩ : ∃ l, szN szAt left d.2.1 = l := ⟨_, rfl⟩
  obtain ⟨l2, hl2⟩ : ∃ l, szL l1 d.2.2.length = l := ⟨_, rfl⟩
  have H1 := Lib.hid hl1
  have H2 := Lib.hid hl2
  have e0 : szQ left d = if l1 < 0 then -1 else l2 := by unfold szQ; rw [hl1, hl2]
  have b1 : 0 ≤ l1 → l1 ≤ left := fun h => by rw [← hl1] at h ⊢; exact szAts_le h
  have n2 : l2 < 0 → l2 = -1 := fun h => by rw [← hl2] at h ⊢; exact szL_neg h
  clear h q2 hl1 hl2
  by_cases c1 : l1 < 0
  · rw [e0, if_pos c1]
    clear e0 b1 n2
    go_enter Tryz.func6, Tryz.ntmps6
    go_wp2_with (go_at_call 28; refine (szAtomS_d q1 (VD.toExt r1 (by refine x'z ?_; repeat (with_reducible (first | exact x'a _ _ | exact x'b _ | exact x'c (by assumption) | refine x'd ?_ (by assumption) | refine x'e ?_ _ | refine x'f ?_ _ | refine x'g ?_ | refine x'h ?_ ?_ _ | refine x'i ?_ _ | refine x'j ?_ | refine x'k ?_ _ | refine x'l ?_ _ _ | refine x'm ?_ | assumption | (refine x'n ?_; omega) | omega)))) h1 h2).mono ?_; rintro e w1 ⟨rfl, y1, rfl⟩; rw [H1.out])
    go_ret
    exact ⟨rfl, (by refine x'z ?_; repeat (with_reducible (first | exact x'a _ _ | exact x'b _ | exact x'c (by assumption) | refine x'd ?_ (by assumption) | refine x'e ?_ _ | refine x'f ?_ _ | refine x'g ?_ | refine x'h ?_ ?_ _ | refine x'i ?_ _ | refine x'j ?_ | refine x'k ?_ _ | refine x'l ?_ _ _ | refine x'm ?_ | assumption | (refine x'n ?_; omega) | omega)))⟩
  · have hb1 := b1 (by omega)
    rw [e0, if_neg c1]
    by_cases c2 : l2 < 0
    · have HN := Lib.hid (n2 c2)
      clear e0 b1 n2
      go_enter Tryz.func6, Tryz.ntmps6
      go_wp2_with (first
        | (go_at_call 28; refine (szAtomS_d q1 (VD.toExt r1 (by refine x'z ?_; repeat (with_reducible (first | exact x'a _ _ | exact x'b _ | exact x'c (by assumption) | refine x'd ?_ (by assumption) | refine x'e ?_ _ | refine x'f ?_ _ | refine x'g ?_ | refine x'h ?_ ?_ _ | refine x'i ?_ _ | refine x'j ?_ | refine x'k ?_ _ | refine x'l ?_ _ _ | refine x'm ?_ | assumption | (refine x'n ?_; omega) | omega)))) h1 h2).mono ?_; rintro e w1 ⟨rfl, y1, rfl⟩; rw [H1.out])
        | (go_at_call 29; refine (szIntS_any (by omega) (by omega) (by omega)).mono ?_; rintro e w1 ⟨rfl, rfl⟩; rw [H2.out]))
      go_ret
      exact ⟨by rw [HN.out]; rfl, (by refine x'z ?_; repeat (with_reducible (first | exact x'a _ _ | exact x'b _ | exact x'c (by assumption) | refine x'd ?_ (by assumption) | refine x'e ?_ _ | refine x'f ?_ _ | refine x'g ?_ | refine x'h ?_ ?_ _ | refine x'i ?_ _ | refine x'j ?_ | refine x'k ?_ _ | refine x'l ?_ _ _ | refine x'm ?_ | assumption | (refine x'n ?_; omega) | omega)))⟩
    · clear e0 b1 n2
      go_enter Tryz.func6, Tryz.ntmps6
      go_wp2_with (first
        | (go_at_call 28; refine (szAtomS_d q1 (VD.toExt r1 (by refine x'z ?_; repeat (with_reducible (first | exact x'a _ _ | exact x'b _ | exact x'c (by assumption) | refine x'd ?_ (by assumption) | refine x'e ?_ _ | refine x'f ?_ _ | refine x'g ?_ | refine x'h ?_ ?_ _ | refine x'i ?_ _ | refine x'j ?_ | refine x'k ?_ _ | refine x'l ?_ _ _ | refine x'm ?_ | assumption | (refine x'n ?_; omega) | omega)))) h1 h2).mono ?_; rintro e w1 ⟨rfl, y1, rfl⟩; rw [H1.out])
        | (go_at_call 29; refine (szIntS_any (by omega) (by omega) (by omega)).mono ?_; rintro e w1 ⟨rfl, rfl⟩; rw [H2.out]))
      go_ret
      exact ⟨rfl, (by refine x'z ?_; repeat (with_reducible (first | exact x'a _ _ | exact x'b _ | exact x'c (by assumption) | refine x'd ?_ (by assumption) | refine x'e ?_ _ | refine x'f ?_ _ | refine x'g ?_ | refine x'h ?_ ?_ _ | refine x'i ?_ _ | refine x'j ?_ | refine x'k ?_ _ | refine x'l ?_ _ _ | refine x'm ?_ | assumption | (refine x'n ?_; omega) | omega)))⟩
theorem sQ_form {w : World} {v0 v1 v2 : Value} {d : Qd} {F : List Nat} (h : sQ w [v0, v1, v2] d F) : ∃ A c B e, v0 = .int .i64 d.1 ∧ v1 = .slice A d.2.1.length c ∧ v2 = .slice B d.2.2.length e := by
  obtain ⟨c0, c1, F0, F1, e0, h0, ⟨h1, _⟩, ⟨c2, c3, F2, F3, e1, h2, ⟨u1, rfl, h3⟩, ⟨u2, rfl, h4⟩, _⟩, _⟩ := h
  subst e1 h1
  simp only [List.cons_append, List.nil_append, List.cons.injEq, and_true] at e0
  obtain ⟨rfl, rfl, rfl⟩ := e0
  obtain ⟨A, c, rfl, _⟩ := h3.form
  obtain ⟨B, e, rfl, _⟩ := h4.form
  exact ⟨A, c, B, e, rfl, rfl, rfl⟩
set_option maxHeartbeats 1000000 in
theorem toQuery_d {A B : Option Addr} {c e1 : Nat} {d : Qd} {w : World} (hb : BQ d) (h : vQ w [.int .i64 d.1, .slice A d.2.1.length c, .slice B d.2.2.length e1] d) :
    Calls Tryz.prog 10 #[.agg #[.int .i64 d.1, .slice A d.2.1.length c, .slice B d.2.2.length e1]] w fun e w' => ∃ v0 v1 v2 F, e = .returned (.agg #[v0, v1, v2]) ∧ (∃ y, w' = ext w y) ∧ sQ w' [v0, v1, v2] d F ∧ F.Nodup ∧ ∀ b ∈ F, w.heap.size ≤ b := by
  obtain ⟨r1, r2, _⟩ := vQ_get h
  obtain ⟨_, q1, q2⟩ := hb
  clear h
  go_enter Tryz.func10, Tryz.ntmps10
  go_upto_region 1 with fail
  refine wp_name ?_
  intro w0 hw0
  have hx0 : ∃ y, w0 = ext w y := by rw [hw0.out]; exact (by refine x'z ?_; repeat (with_reducible (first | exact x'a _ _ | exact x'b _ | exact x'c (by assumption) | refine x'd ?_ (by assumption) | refine x'e ?_ _ | refine x'f ?_ _ | refine x'g ?_ | refine x'h ?_ ?_ _ | refine x'i ?_ _ | refine x'j ?_ | refine x'k ?_ _ | refine x'l ?_ _ _ | refine x'm ?_ | assumption | (refine x'n ?_; omega) | omega)))
  have P0 : BoxAt w0 w.heap.size #[.int .i64 d.1, .slice A d.2.1.length c, .slice B d.2.2.length e1] := by rw [hw0.out]; exact (by repeat (with_reducible (first | assumption | exact BoxAt.new _ _ _ | apply BoxAt.set3 | refine BoxAt.set3' ?_ (by omega) | apply BoxAt.set30 | apply BoxAt.set31 | apply BoxAt.set32 | apply BoxAt.set2 | refine BoxAt.set2' ?_ (by omega) | apply BoxAt.setP0 | apply BoxAt.setP1 | refine BoxAt.setO ?_ (by omega) | refine BoxAt.alloc ?_ _ | refine BoxAt.drew ?_ | refine BoxAt.toExt ?_ (by assumption))))
  have R0 : BoxAt w0 (w.heap.size + 1) #[.int .i64 0, .slice none 0 0, .slice none 0 0] := by
    rw [hw0.out]
    simpa using BoxAt.new (w.alloc (.cells #[.int .i64 d.1, .slice A d.2.1.length c, .slice B d.2.2.length e1] 28)) #[.int .i64 0, .slice none 0 0, .slice none 0 0] 43
  obtain ⟨l0, k0, k0', k0'', f0⟩ := box3 P0
  obtain ⟨m0, n0, n0', n0'', g0⟩ := box3 R0
  have hz0 := size_of_ext hx0
  clear hw0
  go_wp2_with (first
    | (go_at_call 37; refine (toAtomS_d q1 (VD.toExt r1 (by refine x'z ?_; repeat (with_reducible (first | exact x'a _ _ | exact x'b _ | exact x'c (by assumption) | refine x'd ?_ (by assumption) | refine x'e ?_ _ | refine x'f ?_ _ | refine x'g ?_ | refine x'h ?_ ?_ _ | refine x'i ?_ _ | refine x'j ?_ | refine x'k ?_ _ | refine x'l ?_ _ _ | refine x'm ?_ | assumption | (refine x'n ?_; omega) | omega))))).mono ?_; rintro e w1 ⟨v1, F1, rfl, hx1, hS1, hN1, hF1⟩; obtain ⟨A1, c1, rfl⟩ := sAts_form hS1; have P1 : BoxAt w1 w.heap.size #[.int .i64 d.1, .slice A d.2.1.length c, .slice B d.2.2.length e1] := (by repeat (with_reducible (first | assumption | exact BoxAt.new _ _ _ | apply BoxAt.set3 | refine BoxAt.set3' ?_ (by omega) | apply BoxAt.set30 | apply BoxAt.set31 | apply BoxAt.set32 | apply BoxAt.set2 | refine BoxAt.set2' ?_ (by omega) | apply BoxAt.setP0 | apply BoxAt.setP1 | refine BoxAt.setO ?_ (by omega) | refine BoxAt.alloc ?_ _ | refine BoxAt.drew ?_ | refine BoxAt.toExt ?_ (by assumption)))); have R1 : BoxAt w1 (w.heap.size + 1) #[.int .i64 0, .slice none 0 0, .slice none 0 0] := (by repeat (with_reducible (first | assumption | exact BoxAt.new _ _ _ | apply BoxAt.set3 | refine BoxAt.set3' ?_ (by omega) | apply BoxAt.set30 | apply BoxAt.set31 | apply BoxAt.set32 | apply BoxAt.set2 | refine BoxAt.set2' ?_ (by omega) | apply BoxAt.setP0 | apply BoxAt.setP1 | refine BoxAt.setO ?_ (by omega) | refine BoxAt.alloc ?_ _ | refine BoxAt.drew ?_ | refine BoxAt.toExt ?_ (by assumption)))); have O1 : BoxAt w1 w0.heap.size #[.int .i64 d.1, .slice none 0 0, .slice none 0 0] := (by repeat (with_reducible (first | assumption | exact BoxAt.new _ _ _ | apply BoxAt.set3 | refine BoxAt.set3' ?_ (by omega) | apply BoxAt.set30 | apply BoxAt.set31 | apply BoxAt.set32 | apply BoxAt.set2 | refine BoxAt.set2' ?_ (by omega) | apply BoxAt.setP0 | apply BoxAt.setP1 | refine BoxAt.setO ?_ (by omega) | refine BoxAt.alloc ?_ _ | refine BoxAt.drew ?_ | refine BoxAt.toExt ?_ (by assumption)))); obtain ⟨l1, k1, k1', k1'', f1⟩ := box3 P1; obtain ⟨m1, n1, n1', n1'', g1⟩ := box3 O1; obtain ⟨o1, p1, p1', p1'', q1'⟩ := box3 R1)
    | (go_at_call 38; ((with_reducible refine (toIntS_any q2 (r2.toExt ?_)).mono ?_); (focus (exact (by refine x'z ?_; repeat (with_reducible (first | exact x'a _ _ | exact x'b _ | exact x'c (by assumption) | refine x'd ?_ (by assumption) | refine x'e ?_ _ | refine x'f ?_ _ | refine x'g ?_ | refine x'h ?_ ?_ _ | refine x'i ?_ _ | refine x'j ?_ | refine x'k ?_ _ | refine x'l ?_ _ _ | refine x'm ?_ | assumption | (refine x'n ?_; omega) | omega)))))); rintro e w2 ⟨v2, F2, rfl, hx2, hS2, hF2⟩; obtain ⟨A2, c2, rfl, _⟩ := hS2.form; have P2 : BoxAt w2 w.heap.size #[.int .i64 d.1, .slice A d.2.1.length c, .slice B d.2.2.length e1] := (by repeat (with_reducible (first | assumption | exact BoxAt.new _ _ _ | apply BoxAt.set3 | refine BoxAt.set3' ?_ (by omega) | apply BoxAt.set30 | apply BoxAt.set31 | apply BoxAt.set32 | apply BoxAt.set2 | refine BoxAt.set2' ?_ (by omega) | apply BoxAt.setP0 | apply BoxAt.setP1 | refine BoxAt.setO ?_ (by omega) | refine BoxAt.alloc ?_ _ | refine BoxAt.drew ?_ | refine BoxAt.toExt ?_ (by assumption)))); have R2 : BoxAt w2 (w.heap.size + 1) #[.int .i64 0, .slice none 0 0, .slice none 0 0] := (by repeat (with_reducible (first | assumption | exact BoxAt.new _ _ _ | apply BoxAt.set3 | refine BoxAt.set3' ?_ (by omega) | apply BoxAt.set30 | apply BoxAt.set31 | apply BoxAt.set32 | apply BoxAt.set2 | refine BoxAt.set2' ?_ (by omega) | apply BoxAt.setP0 | apply BoxAt.setP1 | refine BoxAt.setO ?_ (by omega) | refine BoxAt.alloc ?_ _ | refine BoxAt.drew ?_ | refine BoxAt.toExt ?_ (by assumption)))); have O2 : BoxAt w2 w0.heap.size #[.int .i64 d.1, .slice A1 d.2.1.length c1, .slice none 0 0] := (by repeat (with_reducible (first | assumption | exact BoxAt.new _ _ _ | apply BoxAt.set3 | refine BoxAt.set3' ?_ (by omega) | apply BoxAt.set30 | apply BoxAt.set31 | apply BoxAt.set32 | apply BoxAt.set2 | refine BoxAt.set2' ?_ (by omega) | apply BoxAt.setP0 | apply BoxAt.setP1 | refine BoxAt.setO ?_ (by omega) | refine BoxAt.alloc ?_ _ | refine BoxAt.drew ?_ | refine BoxAt.toExt ?_ (by assumption)))); obtain ⟨l2, k2, k2', k2'', f2⟩ := box3 P2; obtain ⟨m2, n2, n2', n2'', g2⟩ := box3 O2; obtain ⟨o2, p2, p2', p2'', q2'⟩ := box3 R2))
  have hz1 := size_of_ext hx1
  have hz2 := size_of_ext hx2
  simp only [World.size_alloc, World.size_setCell] at hz1 hz2 hF1 hF2
  have a1 : ∀ b ∈ F1, b < w1.heap.size := SMono.lt hS1
  refine bodyPost_ret (v := .agg #[.int .i64 d.1, .slice A1 d.2.1.length c1, .slice A2 d.2.2.length c2]) (by simp [results, Tryz.results10, go_sem, *]) rfl ⟨_, _, _, [] ++ (F1 ++ F2), rfl, (by refine x'z ?_; repeat (with_reducible (first | exact x'a _ _ | exact x'b _ | exact x'c (by assumption) | refine x'd ?_ (by assumption) | refine x'e ?_ _ | refine x'f ?_ _ | refine x'g ?_ | refine x'h ?_ ?_ _ | refine x'i ?_ _ | refine x'j ?_ | refine x'k ?_ _ | refine x'l ?_ _ _ | refine x'm ?_ | assumption | (refine x'n ?_; omega) | omega))), sP_mk ⟨rfl, rfl⟩ (sP_mk (OD.chg (G := [w0.heap.size, w.heap.size + 1]) hS1 (by repeat (with_reducible (first | exact Chg.refl _ _ | refine Chg.trans0 ?_ (by assumption) | refine Chg.extS ?_ _ | refine Chg.alloc ?_ _ | refine Chg.drew ?_ | refine Chg.setCell ?_ (.inl (by simp)) _))) ?_) ⟨_, rfl, hS2.chg (G := [w0.heap.size, w.heap.size + 1]) (by repeat (with_reducible (first | exact Chg.refl _ _ | refine Chg.trans0 ?_ (by assumption) | refine Chg.extS ?_ _ | refine Chg.alloc ?_ _ | refine Chg.drew ?_ | refine Chg.setCell ?_ (.inl (by simp)) _))) ?_⟩), ?_, ?_⟩
  · intro b hb h
    have := hF1 b hb
    simp at h
    omega
  · intro b hb h
    have := hF2 b hb
    simp at h
    omega
  · rw [List.nil_append]; exact nodup_more (n := w1.heap.size) hN1 hS2.nodup a1 hF2
  · intro b hb
    rcases List.mem_append.1 hb with h | h
    · simp at h
    · rcases List.mem_append.1 h with h | h
      · have := hF1 b h; omega
      · have := hF2 b h; omega
set_option maxHeartbeats 1000000 in
theorem eqQuery_d {A B A' B' : Option Addr} {c e1 c' e1' : Nat} {d d' : Qd} {w : World} (hb : BQ d) (h : vQ w [.int .i64 d.1, .slice A d.2.1.length c, .slice B d.2.2.length e1] d) (hb' : BQ d') (h' : vQ w [.int .i64 d'.1, .slice A' d'.2.1.length c', .slice B' d'.2.2.length e1'] d') :
    Calls Tryz.prog 15 #[.agg #[.int .i64 d.1, .slice A d.2.1.length c, .slice B d.2.2.length e1], .agg #[.int .i64 d'.1, .slice A' d'.2.1.length c', .slice B' d'.2.2.length e1']] w fun e w' => e = .returned (.bool (decide (d = d'))) ∧ ∃ y, w' = ext w y := by
  obtain ⟨r1, r2, _⟩ := vQ_get h
  obtain ⟨_, b1, b2⟩ := hb
  obtain ⟨s1, s2, _⟩ := vQ_get h'
  obtain ⟨_, p1, p2⟩ := hb'
  have m2 : d.2.2.length ≤ 1000000000 := by omega
  have n2 : d'.2.2.length ≤ 1000000000 := by omega
  have HD := Lib.hid (show decide (d = d') = (decide (d.1 = d'.1) && decide (d.2.1 = d'.2.1) && decide (d.2.2 = d'.2.2)) by
    rw [Bool.eq_iff_iff]
    simp [Prod.ext_iff, and_assoc])
  obtain ⟨t1, ht1⟩ : ∃ t, decide (d.1 = d'.1) = t := ⟨_, rfl⟩
  obtain ⟨t2, ht2⟩ : ∃ t, decide (d.2.1 = d'.2.1) = t := ⟨_, rfl⟩
  obtain ⟨t3, ht3⟩ : ∃ t, decide (d.2.2 = d'.2.2) = t := ⟨_, rfl⟩
  have D2 := Lib.hid ht2
  have D3 := Lib.hid ht3
  have hq : (d.1 != d'.1) = !t1 := by rw [← ht1]; by_cases q : d.1 = d'.1 <;> simp [q]
  have HE := Lib.hid (show decide (d = d') = (t1 && t2 && t3) by rw [HD.out, ht1, ht2, ht3])
  clear h h' ht1 ht2 ht3 HD
  cases t1 <;> cases t2 <;> cases t3
  all_goals
    go_enter Tryz.func15, Tryz.ntmps15
    go_upto_region 1 with fail
    refine wp_name ?_
    intro W hW
    have xW : ∃ y, W = ext w y := by rw [hW.out]; exact (by refine x'z ?_; repeat (with_reducible (first | exact x'a _ _ | exact x'b _ | exact x'c (by assumption) | refine x'd ?_ (by assumption) | refine x'e ?_ _ | refine x'f ?_ _ | refine x'g ?_ | refine x'h ?_ ?_ _ | refine x'i ?_ _ | refine x'j ?_ | refine x'k ?_ _ | refine x'l ?_ _ _ | refine x'm ?_ | assumption | (refine x'n ?_; omega) | omega)))
    have BW0 : BoxAt W (w.heap.size) #[.int .i64 d.1, .slice A d.2.1.length c, .slice B d.2.2.length e1] := by rw [hW.out]; refine ⟨?_, fun j => ?_, fun j => ?_⟩ <;> go_simp
    obtain ⟨lW0, bW0, fW0⟩ := BW0
    have cW0_0 : W.cell? ⟨w.heap.size, 0, none⟩ = some (.int .i64 d.1) := bW0 0
    have cW0_1 : W.cell? ⟨w.heap.size, 1, none⟩ = some (.slice A d.2.1.length c) := bW0 1
    have cW0_2 : W.cell? ⟨w.heap.size, 2, none⟩ = some (.slice B d.2.2.length e1) := bW0 2
    have BW1 : BoxAt W (w.heap.size + 1) #[.int .i64 d'.1, .slice A' d'.2.1.length c', .slice B' d'.2.2.length e1'] := by rw [hW.out]; refine ⟨?_, fun j => ?_, fun j => ?_⟩ <;> go_simp
    obtain ⟨lW1, bW1, fW1⟩ := BW1
    have cW1_0 : W.cell? ⟨w.heap.size + 1, 0, none⟩ = some (.int .i64 d'.1) := bW1 0
    have cW1_1 : W.cell? ⟨w.heap.size + 1, 1, none⟩ = some (.slice A' d'.2.1.length c') := bW1 1
    have cW1_2 : W.cell? ⟨w.heap.size + 1, 2, none⟩ = some (.slice B' d'.2.2.length e1') := bW1 2
    clear hW
    go_wp2_with (first
      | (go_at_call 45; refine (eqAtomS_d b1 (VD.toExt r1 (by refine x'z ?_; repeat (with_reducible (first | exact x'a _ _ | exact x'b _ | exact x'c (by assumption) | refine x'd ?_ (by assumption) | refine x'e ?_ _ | refine x'f ?_ _ | refine x'g ?_ | refine x'h ?_ ?_ _ | refine x'i ?_ _ | refine x'j ?_ | refine x'k ?_ _ | refine x'l ?_ _ _ | refine x'm ?_ | assumption | (refine x'n ?_; omega) | omega)))) p1 (VD.toExt s1 (by refine x'z ?_; repeat (with_reducible (first | exact x'a _ _ | exact x'b _ | exact x'c (by assumption) | refine x'd ?_ (by assumption) | refine x'e ?_ _ | refine x'f ?_ _ | refine x'g ?_ | refine x'h ?_ ?_ _ | refine x'i ?_ _ | refine x'j ?_ | refine x'k ?_ _ | refine x'l ?_ _ _ | refine x'm ?_ | assumption | (refine x'n ?_; omega) | omega))))).mono ?_; rintro e w1 ⟨rfl, hx1⟩; rw [D2.out]; have P1 := BoxAt.toExt (cs := #[.int .i64 d.1, .slice A d.2.1.length c, .slice B d.2.2.length e1]) ⟨lW0, bW0, fW0⟩ hx1; have Q1 := BoxAt.toExt (cs := #[.int .i64 d'.1, .slice A' d'.2.1.length c', .slice B' d'.2.2.length e1']) ⟨lW1, bW1, fW1⟩ hx1; obtain ⟨l1, a1, a1', a1'', f1⟩ := box3 P1; obtain ⟨o1, z1, z1', z1'', g1⟩ := box3 Q1)
      | (go_at_call 46; (with_reducible refine (eqIntS_any m2 (r2.toExt ?_) n2 (s2.toExt ?_)).mono ?_); (focus (exact (by refine x'z ?_; repeat (with_reducible (first | exact x'a _ _ | exact x'b _ | exact x'c (by assumption) | refine x'd ?_ (by assumption) | refine x'e ?_ _ | refine x'f ?_ _ | refine x'g ?_ | refine x'h ?_ ?_ _ | refine x'i ?_ _ | refine x'j ?_ | refine x'k ?_ _ | refine x'l ?_ _ _ | refine x'm ?_ | assumption | (refine x'n ?_; omega) | omega))))); (focus (exact (by refine x'z ?_; repeat (with_reducible (first | exact x'a _ _ | exact x'b _ | exact x'c (by assumption) | refine x'd ?_ (by assumption) | refine x'e ?_ _ | refine x'f ?_ _ | refine x'g ?_ | refine x'h ?_ ?_ _ | refine x'i ?_ _ | refine x'j ?_ | refine x'k ?_ _ | refine x'l ?_ _ _ | refine x'm ?_ | assumption | (refine x'n ?_; omega) | omega))))); rintro e w2 ⟨rfl, hx2⟩; rw [D3.out]))
    go_ret
    exact ⟨by rw [HE.out]; rfl, (by refine x'z ?_; repeat (with_reducible (first | exact x'a _ _ | exact x'b _ | exact x'c (by assumption) | refine x'd ?_ (by assumption) | refine x'e ?_ _ | refine x'f ?_ _ | refine x'g ?_ | refine x'h ?_ ?_ _ | refine x'i ?_ _ | refine x'j ?_ | refine x'k ?_ _ | refine x'l ?_ _ _ | refine x'm ?_ | assumption | (refine x'n ?_; omega) | omega)))⟩
end Go.Proofs.YtfigcfajkilhiaaGreat
namespace Go.Proofs.YtfigcfajkilhiaaGreat
open Go.ChangeShapes Go.WideShapes Go.ChangeAt Go.RowKit
theorem oIntss : OpenE Tryz.prog 56 1 (vSl 1 (vSl 1 vI)) (fun d => d.length ≤ maxLen ∧ ∀ x ∈ d, x.length ≤ maxLen) := ⟨(openSl Tryz.underlying56 (by kernel_rfl) (by omega) oInts).1, fun H enc w base spare held n c y h => by
  obtain ⟨d, h1, h2, h3⟩ := (openSl Tryz.underlying56 (by kernel_rfl) (by omega) oInts).2 H enc w base spare held n c y h
  exact ⟨d, h1, h2, fun x hx => (h3 x hx).1⟩⟩
theorem oRel : OpenE Tryz.prog 92 (1 + 1) (vP 1 vI (vSl 1 (vSl 1 vI))) (fun d => I64 d.1 ∧ d.2.length ≤ maxLen ∧ ∀ x ∈ d.2, x.length ≤ maxLen) := openStruct2 Tryz.underlying92 rfl rfl oInt oIntss (by kernel_rfl)
end Go.Proofs.YtfigcfajkilhiaaGreat
namespace Go.Proofs.YtfigcfajkilhiaaGreat
open Go.RowKit
abbrev Rd := Int × List (List Int)
abbrev VRd := List Int × Rd
theorem szG_neg {α : Type} {f : Int → α → Int} : ∀ (xs : List α) (l : Int), 0 ≤ l → szG f l xs < 0 → szG f l xs = -1
  | [], l, h, k => by rw [szG] at k; omega
  | x :: xs, l, h, k => by
    rw [szG] at k ⊢
    split
    · rfl
    · rename_i h1
      rw [if_neg h1] at k
      exact szG_neg xs _ (by omega) k
abbrev vRel : VE Rd := vP 1 vI vII
abbrev sRel : SE Rd := sP 1 sI sII
theorem sRel_v {w : World} (c : List Value) (d : Rd) (F : List Nat) (h : sRel w c d F) : vRel w c d := sP_v sI_v sII_v c d F h
def QRel (d : Rd) : Prop := I64 d.1 ∧ QSS d.2
def BRel (d : Rd) : Prop := I64 d.1 ∧ BSS d.2
theorem szI_neg {l : Int} {d : List (List Int)} (h : szN szI l d < 0) : szN szI l d = -1 := by
  unfold szN at h ⊢
  split
  · rfl
  · rename_i h1
    rw [if_neg h1] at h
    exact szG_neg _ _ (by omega) h
theorem vRel_shape {w : World} {c : List Value} {d : Rd} (h : vRel w c d) : ∃ A a, c = [.int .i64 d.1, .slice A d.2.length a] := by
  obtain ⟨c0, c1, e0, h0, h1, A2, d2, rfl, k2⟩ := h
  simp only [vI] at h1
  subst h1
  exact ⟨_, _, e0⟩
theorem vRel_get {w : World} {A : Option Addr} {n c : Nat} {z : Int} {d : Rd} (h : vRel w [.int .i64 z, .slice A n c] d) : z = d.1 ∧ vII w [.slice A n c] d.2 := by
  obtain ⟨c0, c1, e0, h0, h1, A2, d2, rfl, k2⟩ := h
  simp only [vI] at h1
  subst h1
  simp only [List.cons_append, List.nil_append, List.cons.injEq, Value.slice.injEq, and_true, Value.int.injEq, true_and] at e0
  obtain ⟨q0, q1, q2, q3⟩ := e0
  subst q0 q1 q2 q3
  exact ⟨rfl, _, _, rfl, k2⟩
theorem szRelation_d {A : Option Addr} {c : Nat} {d : Rd} {left : Int} {w : World} (hq : QRel d) (h : vRel w [.int .i64 d.1, .slice A d.2.length c] d) (h1 : 0 ≤ left) (h2 : left ≤ 1000000000) :
    Calls Tryz.prog 98 #[.agg #[.int .i64 d.1, .slice A d.2.length c], .int .i64 left] w fun e w' => e = .returned (.int .i64 (szN szI left d.2)) ∧ ∃ y, w' = ext w y := by
  have r1 := (vRel_get h).2
  have q1 := hq.2
  obtain ⟨l1, hl1⟩ : ∃ l, szN szI left d.2 = l := ⟨_, rfl⟩
  have H1 := Lib.hid hl1
  have n1 : l1 < 0 → l1 = -1 := fun h => by rw [← hl1] at h ⊢; exact szI_neg h
  clear h hq hl1
  by_cases c1 : l1 < 0
  · have HN := Lib.hid (n1 c1)
    clear n1
    go_enter Tryz.func98, Tryz.ntmps98
    go_wp2_with (go_at_call 116; refine (szIntSS_d q1 (VD.toExt r1 (by refine x'z ?_; repeat (with_reducible (first | exact x'a _ _ | exact x'b _ | exact x'c (by assumption) | refine x'd ?_ (by assumption) | refine x'e ?_ _ | refine x'f ?_ _ | refine x'g ?_ | refine x'h ?_ ?_ _ | refine x'i ?_ _ | refine x'j ?_ | refine x'k ?_ _ | refine x'l ?_ _ _ | refine x'm ?_ | assumption | (refine x'n ?_; omega) | omega)))) h1 h2).mono ?_; rintro e w1 ⟨rfl, y1, rfl⟩; rw [H1.out])
    go_ret
    exact ⟨by rw [H1.out, HN.out]; rfl, (by refine x'z ?_; repeat (with_reducible (first | exact x'a _ _ | exact x'b _ | exact x'c (by assumption) | refine x'd ?_ (by assumption) | refine x'e ?_ _ | refine x'f ?_ _ | refine x'g ?_ | refine x'h ?_ ?_ _ | refine x'i ?_ _ | refine x'j ?_ | refine x'k ?_ _ | refine x'l ?_ _ _ | refine x'm ?_ | assumption | (refine x'n ?_; omega) | omega)))⟩
  · clear n1
    go_enter Tryz.func98, Tryz.ntmps98
    go_wp2_with (go_at_call 116; refine (szIntSS_d q1 (VD.toExt r1 (by refine x'z ?_; repeat (with_reducible (first | exact x'a _ _ | exact x'b _ | exact x'c (by assumption) | refine x'd ?_ (by assumption) | refine x'e ?_ _ | refine x'f ?_ _ | refine x'g ?_ | refine x'h ?_ ?_ _ | refine x'i ?_ _ | refine x'j ?_ | refine x'k ?_ _ | refine x'l ?_ _ _ | refine x'm ?_ | assumption | (refine x'n ?_; omega) | omega)))) h1 h2).mono ?_; rintro e w1 ⟨rfl, y1, rfl⟩; rw [H1.out])
    go_ret
    exact ⟨by rw [H1.out]; rfl, (by refine x'z ?_; repeat (with_reducible (first | exact x'a _ _ | exact x'b _ | exact x'c (by assumption) | refine x'd ?_ (by assumption) | refine x'e ?_ _ | refine x'f ?_ _ | refine x'g ?_ | refine x'h ?_ ?_ _ | refine x'i ?_ _ | refine x'j ?_ | refine x'k ?_ _ | refine x'l ?_ _ _ | refine x'm ?_ | assumption | (refine x'n ?_; omega) | omega)))⟩
theorem sRel_form {w : World} {v0 v1 : Value} {d : Rd} {F : List Nat} (h : sRel w [v0, v1] d F) : ∃ A c, v0 = .int .i64 d.1 ∧ v1 = .slice A d.2.length c ∧ sII w [v1] d.2 F := by
  obtain ⟨c0, c1, F0, F1, e0, h0, ⟨h1, f0⟩, h3, e4⟩ := h
  subst h1 f0 e4
  simp only [List.cons_append, List.nil_append, List.cons.injEq] at e0
  obtain ⟨rfl, rfl⟩ := e0
  obtain ⟨A, c, rfl⟩ := sII_form h3
  exact ⟨A, c, rfl, rfl, by simpa using h3⟩
theorem sRel_mk {w : World} {v1 : Value} {z : Int} {rows : List (List Int)} {F : List Nat} (h : sII w [v1] rows F) : sRel w [.int .i64 z, v1] (z, rows) F := by
  have := sP_mk (E0 := sI) (E1 := sII) (w := w) (u := .int .i64 z) (d := (z, rows)) ⟨rfl, rfl⟩ h
  simpa using this
set_option maxHeartbeats 1000000 in
theorem toRelation_d {A : Option Addr} {c : Nat} {d : Rd} {w : World} (hb : BRel d) (h : vRel w [.int .i64 d.1, .slice A d.2.length c] d) :
    Calls Tryz.prog 101 #[.agg #[.int .i64 d.1, .slice A d.2.length c]] w fun e w' => ∃ v0 v1 F, e = .returned (.agg #[v0, v1]) ∧ (∃ y, w' = ext w y) ∧ sRel w' [v0, v1] d F ∧ F.Nodup ∧ ∀ b ∈ F, w.heap.size ≤ b := by
  have r1 := (vRel_get h).2
  obtain ⟨_, q1⟩ := hb
  clear h
  go_enter Tryz.func101, Tryz.ntmps101
  go_upto_region 1 with fail
  refine wp_name ?_
  intro w0 hw0
  have hx0 : ∃ y, w0 = ext w y := by rw [hw0.out]; exact (by refine x'z ?_; repeat (with_reducible (first | exact x'a _ _ | exact x'b _ | exact x'c (by assumption) | refine x'd ?_ (by assumption) | refine x'e ?_ _ | refine x'f ?_ _ | refine x'g ?_ | refine x'h ?_ ?_ _ | refine x'i ?_ _ | refine x'j ?_ | refine x'k ?_ _ | refine x'l ?_ _ _ | refine x'm ?_ | assumption | (refine x'n ?_; omega) | omega)))
  have P0 : BoxAt w0 w.heap.size #[.int .i64 d.1, .slice A d.2.length c] := by rw [hw0.out]; exact (by repeat (with_reducible (first | assumption | exact BoxAt.new _ _ _ | apply BoxAt.set2 | refine BoxAt.set2' ?_ (by omega) | apply BoxAt.setP0 | apply BoxAt.setP1 | refine BoxAt.setO ?_ (by omega) | refine BoxAt.alloc ?_ _ | refine BoxAt.drew ?_ | refine BoxAt.toExt ?_ (by assumption))))
  have R0 : BoxAt w0 (w.heap.size + 1) #[.int .i64 0, .slice none 0 0] := by
    rw [hw0.out]
    simpa using BoxAt.new (w.alloc (.cells #[.int .i64 d.1, .slice A d.2.length c] 92)) #[.int .i64 0, .slice none 0 0] 58
  obtain ⟨l0, k0, k0', f0⟩ := bx2 P0
  obtain ⟨m0, n0, n0', g0⟩ := bx2 R0
  have hz0 := size_of_ext hx0
  clear hw0
  go_wp2_with (go_at_call 117; refine (toIntSS_d q1 (VD.toExt r1 (by refine x'z ?_; repeat (with_reducible (first | exact x'a _ _ | exact x'b _ | exact x'c (by assumption) | refine x'd ?_ (by assumption) | refine x'e ?_ _ | refine x'f ?_ _ | refine x'g ?_ | refine x'h ?_ ?_ _ | refine x'i ?_ _ | refine x'j ?_ | refine x'k ?_ _ | refine x'l ?_ _ _ | refine x'm ?_ | assumption | (refine x'n ?_; omega) | omega))))).mono ?_; rintro e w1 ⟨v1, F1, rfl, hx1, hS1, hN1, hF1⟩; obtain ⟨A1, c1, rfl⟩ := sII_form hS1; have R1 : BoxAt w1 (w.heap.size + 1) #[.int .i64 0, .slice none 0 0] := (by repeat (with_reducible (first | assumption | exact BoxAt.new _ _ _ | apply BoxAt.set2 | refine BoxAt.set2' ?_ (by omega) | apply BoxAt.setP0 | apply BoxAt.setP1 | refine BoxAt.setO ?_ (by omega) | refine BoxAt.alloc ?_ _ | refine BoxAt.drew ?_ | refine BoxAt.toExt ?_ (by assumption)))); have O1 : BoxAt w1 w0.heap.size #[.int .i64 d.1, .slice none 0 0] := (by repeat (with_reducible (first | assumption | exact BoxAt.new _ _ _ | apply BoxAt.set2 | refine BoxAt.set2' ?_ (by omega) | apply BoxAt.setP0 | apply BoxAt.setP1 | refine BoxAt.setO ?_ (by omega) | refine BoxAt.alloc ?_ _ | refine BoxAt.drew ?_ | refine BoxAt.toExt ?_ (by assumption)))); obtain ⟨m1, n1, n1', g1⟩ := bx2 O1; obtain ⟨o1, p1, p1', q1'⟩ := bx2 R1)
  have hz1 := size_of_ext hx1
  simp only [World.size_alloc] at hz1 hF1
  refine bodyPost_ret (v := .agg #[.int .i64 d.1, .slice A1 d.2.length c1]) (by simp [results, Tryz.results101, go_sem, *]) rfl ⟨_, _, F1, rfl, (by refine x'z ?_; repeat (with_reducible (first | exact x'a _ _ | exact x'b _ | exact x'c (by assumption) | refine x'd ?_ (by assumption) | refine x'e ?_ _ | refine x'f ?_ _ | refine x'g ?_ | refine x'h ?_ ?_ _ | refine x'i ?_ _ | refine x'j ?_ | refine x'k ?_ _ | refine x'l ?_ _ _ | refine x'm ?_ | assumption | (refine x'n ?_; omega) | omega))), sRel_mk (OD.chg (G := [w0.heap.size, w.heap.size + 1]) hS1 (by repeat (with_reducible (first | exact Chg.refl _ _ | refine Chg.trans0 ?_ (by assumption) | refine Chg.extS ?_ _ | refine Chg.alloc ?_ _ | refine Chg.drew ?_ | refine Chg.setCell ?_ (.inl (by simp)) _))) ?_), hN1, ?_⟩
  · intro b hb h
    have := hF1 b hb
    simp at h
    omega
  · intro b hb
    have := hF1 b hb
    omega
set_option maxHeartbeats 1000000 in
theorem eqRelation_d {A A' : Option Addr} {c c' : Nat} {d d' : Rd} {w : World} (hb : BRel d) (h : vRel w [.int .i64 d.1, .slice A d.2.length c] d) (hb' : BRel d') (h' : vRel w [.int .i64 d'.1, .slice A' d'.2.length c'] d') :
    Calls Tryz.prog 24 #[.agg #[.int .i64 d.1, .slice A d.2.length c], .agg #[.int .i64 d'.1, .slice A' d'.2.length c']] w fun e w' => e = .returned (.bool (decide (d = d'))) ∧ ∃ y, w' = ext w y := by
  have r1 := (vRel_get h).2
  have s1 := (vRel_get h').2
  have b1 := hb.2
  have p1 := hb'.2
  have HD := Lib.hid (show decide (d = d') = (decide (d.1 = d'.1) && decide (d.2 = d'.2)) by
    rw [Bool.eq_iff_iff]
    simp [Prod.ext_iff])
  obtain ⟨t1, ht1⟩ : ∃ t, decide (d.1 = d'.1) = t := ⟨_, rfl⟩
  obtain ⟨t2, ht2⟩ : ∃ t, decide (d.2 = d'.2) = t := ⟨_, rfl⟩
  have D2 := Lib.hid ht2
  have hq : (d.1 != d'.1) = !t1 := by rw [← ht1]; by_cases q : d.1 = d'.1 <;> simp [q]
  have HE := Lib.hid (show decide (d = d') = (t1 && t2) by rw [HD.out, ht1, ht2])
  clear h h' hb hb' ht1 ht2 HD
  cases t1 <;> cases t2
  all_goals
    go_enter Tryz.func24, Tryz.ntmps24
    go_upto_region 1 with fail
    refine wp_name ?_
    intro W hW
    have xW : ∃ y, W = ext w y := by rw [hW.out]; exact (by refine x'z ?_; repeat (with_reducible (first | exact x'a _ _ | exact x'b _ | exact x'c (by assumption) | refine x'd ?_ (by assumption) | refine x'e ?_ _ | refine x'f ?_ _ | refine x'g ?_ | refine x'h ?_ ?_ _ | refine x'i ?_ _ | refine x'j ?_ | refine x'k ?_ _ | refine x'l ?_ _ _ | refine x'm ?_ | assumption | (refine x'n ?_; omega) | omega)))
    have BW0 : BoxAt W (w.heap.size) #[.int .i64 d.1, .slice A d.2.length c] := by rw [hW.out]; refine ⟨?_, fun j => ?_, fun j => ?_⟩ <;> go_simp
    obtain ⟨lW0, bW0, fW0⟩ := BW0
    have cW0_0 : W.cell? ⟨w.heap.size, 0, none⟩ = some (.int .i64 d.1) := bW0 0
    have cW0_1 : W.cell? ⟨w.heap.size, 1, none⟩ = some (.slice A d.2.length c) := bW0 1
    have BW1 : BoxAt W (w.heap.size + 1) #[.int .i64 d'.1, .slice A' d'.2.length c'] := by rw [hW.out]; refine ⟨?_, fun j => ?_, fun j => ?_⟩ <;> go_simp
    obtain ⟨lW1, bW1, fW1⟩ := BW1
    have cW1_0 : W.cell? ⟨w.heap.size + 1, 0, none⟩ = some (.int .i64 d'.1) := bW1 0
    have cW1_1 : W.cell? ⟨w.heap.size + 1, 1, none⟩ = some (.slice A' d'.2.length c') := bW1 1
    clear hW
    go_wp2_with (go_at_call 59; refine (eqIntSS_d b1 (VD.toExt r1 (by refine x'z ?_; repeat (with_reducible (first | exact x'a _ _ | exact x'b _ | exact x'c (by assumption) | refine x'd ?_ (by assumption) | refine x'e ?_ _ | refine x'f ?_ _ | refine x'g ?_ | refine x'h ?_ ?_ _ | refine x'i ?_ _ | refine x'j ?_ | refine x'k ?_ _ | refine x'l ?_ _ _ | refine x'm ?_ | assumption | (refine x'n ?_; omega) | omega)))) p1 (VD.toExt s1 (by refine x'z ?_; repeat (with_reducible (first | exact x'a _ _ | exact x'b _ | exact x'c (by assumption) | refine x'd ?_ (by assumption) | refine x'e ?_ _ | refine x'f ?_ _ | refine x'g ?_ | refine x'h ?_ ?_ _ | refine x'i ?_ _ | refine x'j ?_ | refine x'k ?_ _ | refine x'l ?_ _ _ | refine x'm ?_ | assumption | (refine x'n ?_; omega) | omega))))).mono ?_; rintro e w1 ⟨rfl, hx1⟩; rw [D2.out])
    go_ret
    exact ⟨by rw [HE.out]; rfl, (by refine x'z ?_; repeat (with_reducible (first | exact x'a _ _ | exact x'b _ | exact x'c (by assumption) | refine x'd ?_ (by assumption) | refine x'e ?_ _ | refine x'f ?_ _ | refine x'g ?_ | refine x'h ?_ ?_ _ | refine x'i ?_ _ | refine x'j ?_ | refine x'k ?_ _ | refine x'l ?_ _ _ | refine x'm ?_ | assumption | (refine x'n ?_; omega) | omega)))⟩
abbrev vVR : VE VRd := vP 1 (vSl 1 vI) vRel
abbrev sVR : SE VRd := sP 1 (sSl 3 1 sI) sRel
theorem sVR_v {w : World} (c : List Value) (d : VRd) (F : List Nat) (h : sVR w c d F) : vVR w c d := sP_v (sSl_v sI_v) sRel_v c d F h
def BVR (d : VRd) : Prop := d.1.length ≤ 1048576 ∧ BRel d.2
theorem vVR_get {w : World} {A B : Option Addr} {n a m b : Nat} {z : Int} {d : VRd} (h : vVR w [.slice A n a, .int .i64 z, .slice B m b] d) : RI w A d.1 ∧ vRel w [.int .i64 z, .slice B m b] d.2 ∧ d.1.length ≤ a := by
  obtain ⟨c0, c1, e0, h0, ⟨A', a', rfl, k⟩, h1⟩ := h
  obtain ⟨B', b', rfl⟩ := vRel_shape h1
  simp only [List.cons_append, List.nil_append, List.cons.injEq, Value.slice.injEq, and_true, Value.int.injEq, true_and] at e0
  obtain ⟨⟨q1, q2, q3⟩, q4, q5, q6, q7⟩ := e0
  subst q1 q3 q4 q5 q6 q7
  exact ⟨k, h1, by omega⟩
theorem sVR_form {w : World} {v0 v1 v2 : Value} {d : VRd} {F : List Nat} (h : sVR w [v0, v1, v2] d F) : ∃ A a B b, v0 = .slice A d.1.length a ∧ v1 = .int .i64 d.2.1 ∧ v2 = .slice B d.2.2.length b := by
  obtain ⟨c0, c1, F0, F1, e0, h0, ⟨u, rfl, h1⟩, h2, e4⟩ := h
  obtain ⟨A, a, rfl, _⟩ := h1.form
  obtain ⟨B, b, hb⟩ := vRel_shape (sRel_v _ _ _ h2)
  subst hb
  simp only [List.cons_append, List.nil_append, List.cons.injEq, and_true] at e0
  obtain ⟨rfl, rfl, rfl⟩ := e0
  exact ⟨A, a, B, b, rfl, rfl, rfl⟩
end Go.Proofs.YtfigcfajkilhiaaGreat
namespace Go.Proofs.YtfigcfajkilhiaaGreat
open Go.RowKit
def cmpI (a b : Int) : Int := if a < b then -1 else if b < a then 1 else 0
def cmpL : List Int → List Int → Int
  | [], [] => 0
  | [], _ :: _ => -1
  | _ :: _, [] => 1
  | x :: xs, y :: ys => if x = y then cmpL xs ys else cmpI x y
theorem cmpI_zero {a b : Int} : cmpI a b = 0 ↔ a = b := by unfold cmpI; split <;> (try split) <;> omega
theorem cmpL_zero : ∀ {xs ys : List Int}, cmpL xs ys = 0 ↔ xs = ys
  | [], [] => by simp [cmpL]
  | [], _ :: _ => by simp [cmpL]
  | _ :: _, [] => by simp [cmpL]
  | x :: xs, y :: ys => by
    rw [cmpL]
    split
    · rename_i h
      subst h
      rw [cmpL_zero]
      simp
    · rename_i h
      rw [cmpI_zero]
      simp [h]
theorem cmpL_bd : ∀ (xs ys : List Int), -1 ≤ cmpL xs ys ∧ cmpL xs ys ≤ 1
  | [], [] => by simp [cmpL]
  | [], _ :: _ => by simp [cmpL]
  | _ :: _, [] => by simp [cmpL]
  | x :: xs, y :: ys => by
    rw [cmpL]
    split
    · exact cmpL_bd xs ys
    · unfold cmpI; split <;> (try split) <;> omega
theorem cmpL_step {xs ys : List Int} {k : Nat} (h : k < xs.length) (h' : k < ys.length) (e : xs[k] = ys[k]) : cmpL (xs.drop k) (ys.drop k) = cmpL (xs.drop (k + 1)) (ys.drop (k + 1)) := by
  rw [List.drop_eq_getElem_cons h, List.drop_eq_getElem_cons h', cmpL, if_pos e]
theorem cmpL_stop {xs ys : List Int} {k : Nat} (h : k < xs.length) (h' : k < ys.length) (e : ¬ xs[k] = ys[k]) : cmpL (xs.drop k) (ys.drop k) = cmpI xs[k] ys[k] := by
  rw [List.drop_eq_getElem_cons h, List.drop_eq_getElem_cons h', cmpL, if_neg e]
theorem cmpL_end {xs ys : List Int} {k : Nat} (hx : k ≤ xs.length) (hy : k ≤ ys.length) (h : ¬ (k < xs.length ∧ k < ys.length)) : cmpL (xs.drop k) (ys.drop k) = cmpI xs.length ys.length := by
  by_cases h1 : k < xs.length
  · have h2 : ys.length ≤ k := by omega
    rw [List.drop_eq_getElem_cons h1, List.drop_eq_nil_of_le h2, cmpL]
    unfold cmpI
    rw [if_neg (by omega), if_pos (by omega)]
  · rw [List.drop_eq_nil_of_le (show xs.length ≤ k by omega)]
    by_cases h2 : k < ys.length
    · rw [List.drop_eq_getElem_cons h2, cmpL]
      unfold cmpI
      rw [if_pos (by omega)]
    · rw [List.drop_eq_nil_of_le (show ys.length ≤ k by omega), cmpL]
      unfold cmpI
      rw [if_neg (by omega), if_neg (by omega)]
set_option maxHeartbeats 1000000 in
theorem specCompareRows_any {A A' : Option Addr} {c c' : Nat} {xs ys : List Int} {w : World} (hx : xs.length ≤ 1000000000) (h1 : RI w A xs) (hy : ys.length ≤ 1000000000) (h2 : RI w A' ys) :
    Calls Tryz.prog 88 #[.slice A xs.length c, .slice A' ys.length c'] w fun e w' => e = .returned (.int .i64 (cmpL xs ys)) ∧ ∃ y, w' = ext w y := by
  go_enter Tryz.func88, Tryz.ntmps88
  go_wp2
  go_loopw [5] (fun i wr => ∃ k : Nat, i = .int .i64 k ∧ k ≤ xs.length ∧ k ≤ ys.length ∧ cmpL (xs.drop k) (ys.drop k) = cmpL xs ys ∧ ∃ y, wr = ext w y) (fun i _ => xs.length - (intOf i).toNat)
  case atStart => exact ⟨0, rfl, by omega, by omega, by simp, refl_ext w⟩
  case round =>
    obtain ⟨k, rfl, hk, hk2, ht, hw⟩ := hrel
    have Ht := Lib.hid ht
    clear ht
    by_cases hlt : k < xs.length
    · by_cases hlt2 : k < ys.length
      · obtain ⟨b, o, rfl, hb, hc⟩ := (h1.toExt hw).atI hlt
        obtain ⟨b', o', rfl, hb', hc'⟩ := (h2.toExt hw).atI hlt2
        by_cases he : xs[k] = ys[k]
        · have He := Lib.hid ((cmpL_step hlt hlt2 he).symm.trans Ht.out)
          have q1 : ¬ xs[k] < ys[k] := by omega
          have q2 : ¬ ys[k] < xs[k] := by omega
          clear he
          go_wp2
          refine wp_region_ext (by kernel_rfl) (by kernel_rfl) ?_
          repeat (go_big_quiet_step (fail))
          refine wpQuiet_nil ?_
          rintro _ ⟨z, rfl⟩
          have hb2 := lt_ext (x := z) hb
          have hb3 := lt_ext (x := z) hb'
          go_wp2
          refine wp_region_ext (by kernel_rfl) (by kernel_rfl) ?_
          repeat (go_big_quiet_step (fail))
          refine wpQuiet_nil ?_
          rintro _ ⟨z2, rfl⟩
          go_wp2
          exact ⟨⟨k + 1, by go_num, by omega, by omega, He.out, (by refine x'z ?_; repeat (with_reducible (first | exact x'a _ _ | exact x'b _ | exact x'c (by assumption) | refine x'd ?_ (by assumption) | refine x'e ?_ _ | refine x'f ?_ _ | refine x'g ?_ | refine x'h ?_ ?_ _ | refine x'i ?_ _ | refine x'j ?_ | refine x'k ?_ _ | refine x'l ?_ _ _ | refine x'm ?_ | assumption | (refine x'n ?_; omega) | omega)))⟩, by simp [intOf]; omega⟩
        · have He := Lib.hid ((cmpL_stop hlt hlt2 he).symm.trans Ht.out)
          by_cases q1 : xs[k] < ys[k]
          · have HE := Lib.hid (show cmpL xs ys = -1 by rw [← He.out]; unfold cmpI; rw [if_pos q1])
            clear he
            go_wp2
            refine wp_region_ext (by kernel_rfl) (by kernel_rfl) ?_
            repeat (go_big_quiet_step (fail))
            refine wpQuiet_nil ?_
            rintro _ ⟨z, rfl⟩
            go_wp2
            go_ret
            exact ⟨by rw [HE.out]; rfl, (by refine x'z ?_; repeat (with_reducible (first | exact x'a _ _ | exact x'b _ | exact x'c (by assumption) | refine x'd ?_ (by assumption) | refine x'e ?_ _ | refine x'f ?_ _ | refine x'g ?_ | refine x'h ?_ ?_ _ | refine x'i ?_ _ | refine x'j ?_ | refine x'k ?_ _ | refine x'l ?_ _ _ | refine x'm ?_ | assumption | (refine x'n ?_; omega) | omega)))⟩
          · have q2 : ys[k] < xs[k] := by omega
            have HE := Lib.hid (show cmpL xs ys = 1 by rw [← He.out]; unfold cmpI; rw [if_neg q1, if_pos q2])
            clear he
            go_wp2
            refine wp_region_ext (by kernel_rfl) (by kernel_rfl) ?_
            repeat (go_big_quiet_step (fail))
            refine wpQuiet_nil ?_
            rintro _ ⟨z, rfl⟩
            have hb2 := lt_ext (x := z) hb
            have hb3 := lt_ext (x := z) hb'
            go_wp2
            refine wp_region_ext (by kernel_rfl) (by kernel_rfl) ?_
            repeat (go_big_quiet_step (fail))
            refine wpQuiet_nil ?_
            rintro _ ⟨z2, rfl⟩
            go_wp2
            go_ret
            exact ⟨by rw [HE.out]; rfl, (by refine x'z ?_; repeat (with_reducible (first | exact x'a _ _ | exact x'b _ | exact x'c (by assumption) | refine x'd ?_ (by assumption) | refine x'e ?_ _ | refine x'f ?_ _ | refine x'g ?_ | refine x'h ?_ ?_ _ | refine x'i ?_ _ | refine x'j ?_ | refine x'k ?_ _ | refine x'l ?_ _ _ | refine x'm ?_ | assumption | (refine x'n ?_; omega) | omega)))⟩
      · have He := Lib.hid ((cmpL_end hk hk2 (by omega)).symm.trans Ht.out)
        have HE := Lib.hid (show cmpL xs ys = 1 by rw [← He.out]; unfold cmpI; rw [if_neg (by omega), if_pos (by omega)])
        have q1 : ¬ (xs.length : Int) < ys.length := by omega
        have q2 : (ys.length : Int) < xs.length := by omega
        go_wp2
        go_ret
        exact ⟨by rw [HE.out]; rfl, hw⟩
    · have He := Lib.hid ((cmpL_end hk hk2 (by omega)).symm.trans Ht.out)
      by_cases hlt2 : k < ys.length
      · have HE := Lib.hid (show cmpL xs ys = -1 by rw [← He.out]; unfold cmpI; rw [if_pos (by omega)])
        have q1 : (xs.length : Int) < ys.length := by omega
        go_wp2
        go_ret
        exact ⟨by rw [HE.out]; rfl, hw⟩
      · have HE := Lib.hid (show cmpL xs ys = 0 by rw [← He.out]; unfold cmpI; rw [if_neg (by omega), if_neg (by omega)])
        have q1 : ¬ (xs.length : Int) < ys.length := by omega
        have q2 : ¬ (ys.length : Int) < xs.length := by omega
        go_wp2
        go_ret
        exact ⟨by rw [HE.out]; rfl, hw⟩
end Go.Proofs.YtfigcfajkilhiaaGreat
namespace Go.Proofs.YtfigcfajkilhiaaGreat
open Go.RowKit
theorem quietEj {P : Program} {f : FuncId} {args : Array Value} {w y : World} {m n : Int}
    (h : Calls P f args (ext w y) fun e w' => e = .returned (.int .i64 m) ∧ ∃ z, w' = ext (ext w y) z) (hc : m = n) : Calls P f args (ext w y) fun e w' => e = .returned (.int .i64 n) ∧ ∃ z, w' = ext w z := by
  subst hc; exact quietE h
end Go.Proofs.YtfigcfajkilhiaaGreat
namespace Go.Proofs.YtfigcfajkilhiaaGreat
open Go.ChangeShapes Go.WideShapes Go.ChangeAt Go.RowKit
def inB (x a b : Int) : Bool := decide (a ≤ x ∧ x ≤ b)
theorem inB_t {x a b : Int} (h : inB x a b = true) : a ≤ x ∧ x ≤ b := by simpa [inB] using h
theorem within_any (x a b : Int) (w : World) : Calls Tryz.prog 109 #[.int .i64 x, .int .i64 a, .int .i64 b] w fun e w' => e = .returned (.bool (inB x a b)) ∧ w = w' := by
  unfold inB
  by_cases h1 : a ≤ x <;> by_cases h2 : x ≤ b <;> (go_enter Tryz.func109, Tryz.ntmps109; go_wp2; go_ret; exact ⟨by simp [h1, h2], rfl⟩)
theorem l1In_any (x a b : Int) (w : World) : Calls Tryz.prog 91 #[.int .i64 x, .int .i64 a, .int .i64 b] w fun e w' => e = .returned (.bool (inB x a b)) ∧ w = w' := by
  unfold inB
  by_cases h1 : a ≤ x <;> by_cases h2 : x ≤ b <;> (go_enter Tryz.func91, Tryz.ntmps91; go_wp2; go_ret; exact ⟨by simp [h1, h2], rfl⟩)
def vname (v : Int) : ByteArray := if inB v 0 4 = true then (⟨#[88, 89, 90, 85, 86]⟩ : ByteArray).extract v.toNat (v.toNat + 1) else ⟨#[]⟩
end Go.Proofs.YtfigcfajkilhiaaGreat
