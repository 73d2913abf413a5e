/- Contracts of functions that the statements reach, joined from several texts: SortI, App2, Copy5, NewRel, NewRel2, Proj, DbPl, AtomsN, Query. -/
import Derived.Test.YtgoleefkbjjidaaM02
import Derived.Deep.DeepCutAuto
import Derived.Test.YtgoleefkbjjidaaM01
import Derived.Deep.RegionLaw
import Derived.Deep.DrawnRows
/- Rows sorted by the program, each kept once: the rows handed back are its own. -/
namespace Go.Proofs.Ytgoleefkbjjidaa
open Go.RowKit

section
variable {P : Program} {w : World}
/-- an element with memory of its own (G) moved onto a row: no block changes but the row's own -/
theorem wpList_appM {ops : Array Oper} {rest : List Oper} {o : Oper} {a : Act} {Q : Exit → Act → World → Prop} (hgd : o.guard = none) (s x : Operand) (t : TypeId)
    (ho : o.op = .call { callee := .builtin .append, args := #[s, x], argTypes := #[t, t] })
    {α : Type} {E : SE α} [SMono E] {te size bytes : Nat} {z : Value} (hT : SlT P t te size bytes z) {v : Value} {ds : List α} {F G : List Nat} {w0 : World} {cs : Array Value} {d : α} {c b0 : Nat} (hs : a.eval s = v) (hx : a.eval x = .slice (some ⟨b0, 0, none⟩) 1 c) (hw : w = w0.alloc (.cells cs te)) (hb0 : b0 = w0.heap.size)
    (hE : E w0 cs.toList d G) (hc : cs.size = size) (h1 : ∀ u ∈ cs.toList, u.oneCell' = true)
    (hS : SV te size E w0 v ds F) (hN : (F ++ G).Nodup) (hlen : ds.length + 1 ≤ 2000000000) (hby : bytes ≤ 60000)
    (h : ∀ v' w' F', SV te size E w' v' (ds ++ [d]) F' → Chg (fpOf v) w0 w' → F'.Nodup → (∀ b ∈ F', b ∈ F ∨ b ∈ G ∨ w0.heap.size ≤ b) → (∀ b ∈ fpOf v', b ∈ fpOf v ∨ w0.heap.size ≤ b) → wpList P ops Q rest (a.put o.dst v') w') : wpList P ops Q (o :: rest) a w := by
  subst hw hb0
  obtain ⟨ht, hi, hzs, hsz⟩ := hT
  obtain ⟨i, hi, hz, hs1, hs2⟩ := info_parts hi
  have hS' : SV te size E (w0.alloc (.cells cs te)) v ds F := hS.toExt (alloc_ext w0 _)
  have hE' : E (w0.alloc (.cells cs te)) cs.toList d G := OD.toExt hE (alloc_ext w0 _)
  obtain ⟨vs, F2, hown, hel, rfl⟩ := hS'
  have hB := BoxAt.new w0 cs te
  have hl : cs.toList.length = 1 * size := by simpa using hc
  have hb : (ds.length + 1) * bytes ≤ 140737488355328 := Nat.le_trans (Nat.mul_le_mul hlen hby) (by omega)
  have hnews : ∀ (j : Nat) (u : Value), cs.toList[j]? = some u → (w0.alloc (.cells cs te)).cell? ((⟨w0.heap.size, 0, none⟩ : Addr).add j) = some u := fun j u hj => by
    have e : (⟨w0.heap.size, 0, none⟩ : Addr).add j = ⟨w0.heap.size, j, none⟩ := by
      unfold Addr.add
      split
      · rename_i h; subst h; rfl
      · simp
    rw [e, hB.2.1 j]
    simpa using hj
  obtain ⟨v', w', hr, h2, h3, _, h5⟩ := run_append_own_at (P := P) (w0.alloc (.cells cs te)) 0 t o.type te i z size bytes ht hi hz hs1 hs2 hzs hsz v ds.length vs hown ⟨w0.heap.size, 0, none⟩ 1 c cs.toList hl hnews h1 (by simp only [maxLen]; omega) hb (Nat.zero_le _)
  have hcg : Chg (fpOf v) (w0.alloc (.cells cs te)) w' := Chg.ofGrown h3 fun k hk => mem_fpOf.2 hk
  have hd : ∀ b, b ∈ F2 ∨ b ∈ G → b ∉ fpOf v := by
    intro b hb hv
    rw [List.append_assoc, List.nodup_append] at hN
    exact hN.2.2 b hv b (by simpa using hb) rfl
  have hF2 : elems size E w' vs ds F2 := elems_keep hel fun b hb => hcg.block b (elems_lt hel b hb) (hd b (.inl hb))
  have hG : E w' cs.toList d G := SMono.keep hE' fun b hb => hcg.block b (SMono.lt hE' b hb) (hd b (.inr hb))
  have hnew : ∀ b ∈ fpOf v', b ∈ fpOf v ∨ w0.heap.size ≤ b := fun b hb => by
    rw [mem_fpOf] at hb
    rcases h5 with h5 | h5
    · exact .inl (by rw [mem_fpOf, ← h5, hb])
    · rw [h5] at hb; injection hb with hb; simp at hb; exact .inr (by omega)
  have hwl : wpList P ops Q rest (a.put o.dst v') w' := by
    refine h v' w' (fpOf v' ++ (F2 ++ G)) ⟨vs ++ cs.toList, F2 ++ G, by simpa using h2, elems_append hF2 (elems_one (by simpa using hc) hG), rfl⟩ (((Chg.refl _ w0).alloc _).trans hcg (fun x hx => .inl hx)) ?_ ?_ hnew
    · rw [List.append_assoc, List.nodup_append] at hN
      rw [List.nodup_append]
      refine ⟨fpOf_nodup v', hN.2.1, fun b hb b2 hb2 => ?_⟩
      rintro rfl
      rcases h5 with h5 | h5
      · exact hN.2.2 b (by rw [mem_fpOf] at hb ⊢; rw [← h5]; exact hb) b hb2 rfl
      · rw [mem_fpOf, h5] at hb
        have hlt : b < (w0.alloc (.cells cs te)).heap.size := by
          rcases List.mem_append.1 hb2 with h | h
          · exact elems_lt hel b h
          · exact SMono.lt hE' b h
        injection hb with hb
        omega
    · intro b hb
      rcases List.mem_append.1 hb with h | h
      · rcases hnew b h with k | k
        · exact .inl (by simp [k])
        · exact .inr (.inr k)
      · rcases List.mem_append.1 h with h | h
        · exact .inl (by simp [h])
        · exact .inr (.inl h)
  refine wpList_plain hgd fun K hK => ?_
  unfold Oper.wp execOp
  simp only [ho, resolve, invoke, builtin, Sem.run_bind, Sem.run_pure, Result.andThen_ok, List.map_toArray, List.map_cons, List.map_nil, hs, hx, hr]
  exact hK _ _ hwl
end
def SrtO (rows : List (List Int)) (w : World) (e : Ending) (w' : World) : Prop := ∃ (v : Value) (F : List Nat), e = .returned v ∧ (∃ y, w' = ext w y) ∧ SV 22 1 (sSl 3 1 sI) w' v (sortR rows) F ∧ F.Nodup ∧ ∀ b ∈ F, w.heap.size ≤ b
abbrev sRow : SE (List Int) := sSl 3 1 sI
/-- rows from an address on, with their elements' own memory -/
def Part (W : World) : Option Addr → List (List Int) → List Nat → Prop
  | _, [], G => G = []
  | A, x :: xs, G => ∃ b o v G1 G2, A = some ⟨b, o, none⟩ ∧ b < W.heap.size ∧ W.cell? ⟨b, o, none⟩ = some v ∧ sRow W [v] x G1 ∧ Part W (some ⟨b, o + 1, none⟩) xs G2 ∧ G = G1 ++ G2
theorem part_elems {W : World} {b : Nat} (hb : b < W.heap.size) : ∀ {vs : List Value} {ds : List (List Int)} {G : List Nat} {o : Nat}, elems 1 sRow W vs ds G → (∀ j u, vs[j]? = some u → W.cell? ⟨b, o + j, none⟩ = some u) → Part W (some ⟨b, o, none⟩) ds G
  | _, [], _, _, ⟨_, h⟩, _ => h
  | _, d :: ds, _, o, ⟨c, vs', F1, F2, h1, h2, h3, h4, h5⟩, hc => by
    obtain ⟨v, rfl⟩ : ∃ v, c = [v] := by
      match c, h2 with
      | [v], _ => exact ⟨v, rfl⟩
    subst h1
    refine ⟨b, o, v, F1, F2, rfl, hb, by simpa using hc 0 v (by simp), h3, part_elems hb h4 (fun j u hu => ?_), h5⟩
    rw [Nat.add_assoc, Nat.add_comm 1 j]
    exact hc (j + 1) u (by simpa using hu)
theorem SV.part {W : World} {A : Option Addr} {n c : Nat} {ds : List (List Int)} {F : List Nat} (h : SV 22 1 sRow W (.slice A n c) ds F) : ∃ G, Part W A ds G ∧ F = fpOf (.slice A n c) ++ G := by
  obtain ⟨vs, G, h1, h2, h3⟩ := h
  refine ⟨G, ?_, h3⟩
  rcases h1.2 with ⟨h5, hn⟩ | ⟨g, cap, cur, h5, _, hg, _⟩
  · obtain rfl := List.eq_nil_of_length_eq_zero hn
    exact h2.2
  · injection h5 with e1 e2 e3
    subst e1 e2 e3
    have hlt := (h1.lt g rfl).2
    refine part_elems hlt h2 fun j u hu => ?_
    rw [Nat.zero_add, h1.cellAt j (by have := elems_length h2; have := (List.getElem?_eq_some_iff.1 hu).1; omega)]
    exact hu
theorem Part.lt {W : World} : ∀ {A : Option Addr} {ds : List (List Int)} {G : List Nat}, Part W A ds G → ∀ b ∈ G, b < W.heap.size
  | _, [], _, h, b, hb => by rw [h] at hb; simp at hb
  | _, x :: xs, _, ⟨b', o, v, G1, G2, _, _, _, h3, h4, h5⟩, b, hb => by
    subst h5
    rcases List.mem_append.1 hb with h | h
    · exact SMono.lt h3 b h
    · exact Part.lt h4 b h
theorem Part.head {W wr : World} {A : Option Addr} {x : List Int} {xs : List (List Int)} {G : List Nat} (h : Part W A (x :: xs) G) (hy : ∃ y, wr = ext W y) : ∃ b o A1 c1 G1 G2, A = some ⟨b, o, none⟩ ∧ b < wr.heap.size ∧ wr.cell? ⟨b, o, none⟩ = some (.slice A1 x.length c1) ∧ SV 3 1 sI wr (.slice A1 x.length c1) x G1 ∧ RI wr A1 x ∧ x.length ≤ c1 ∧ Part W (some ⟨b, o + 1, none⟩) xs G2 ∧ G = G1 ++ G2 ∧ (xs = [] → Part W A xs G2) := by
  obtain ⟨b, o, v, G1, G2, h1, h2, h3, ⟨v', e, h4⟩, h5, h6⟩ := h
  injection e with e
  subst e
  obtain ⟨A1, c1, rfl, hc, _, hv⟩ := h4.view sI_v
  obtain ⟨y, rfl⟩ := hy
  refine ⟨b, o, A1, c1, G1, G2, h1, lt_ext h2, by rw [cell_ext h2]; exact h3, h4.ext, hv.ext, hc, h5, h6, fun e => by subst e; exact h5⟩
theorem nd3 {F G H : List Nat} (h : (F ++ (G ++ H)).Nodup) : (F ++ G).Nodup ∧ (∀ b ∈ H, b ∉ F ∧ b ∉ G) ∧ H.Nodup := by
  rw [List.nodup_append] at h
  obtain ⟨h1, h2, h3⟩ := h
  rw [List.nodup_append] at h2
  refine ⟨List.nodup_append.2 ⟨h1, h2.1, fun a ha b hb => h3 a ha b (by simp [hb])⟩, fun b hb => ⟨fun hF => h3 b hF b (by simp [hb]) rfl, fun hG => h2.2.2 b hG b hb rfl⟩, h2.2.1⟩
theorem nd3' {F F' G H : List Nat} {n : Nat} (h : (F ++ (G ++ H)).Nodup) (h' : F'.Nodup) (hF : ∀ b ∈ F', b ∈ F ∨ b ∈ G ∨ n ≤ b) (hH : ∀ b ∈ H, b < n) : (F' ++ H).Nodup := by
  obtain ⟨_, h2, h3⟩ := nd3 h
  refine List.nodup_append.2 ⟨h', h3, fun a ha b hb => ?_⟩
  rintro rfl
  rcases hF a ha with k | k | k
  · exact (h2 a hb).1 k
  · exact (h2 a hb).2 k
  · have := hH a hb; omega
def RelI (rows : List (List Int)) (w W : World) (a b o : Value) (wr : World) : Prop := ∃ (ls rs out : List (List Int)) (Aa Ab : Option Addr) (ca cb : Nat) (F GA GB : List Nat), a = .slice Aa ls.length ca ∧ b = .slice Ab rs.length cb ∧ ls.length ≤ ca ∧ rs.length ≤ cb ∧ Part W Aa ls GA ∧ Part W Ab rs GB ∧ SV 22 1 sRow wr o out F ∧ Hid F.Nodup ∧ Hid ((F ++ (GA ++ GB)).Nodup) ∧ Hid (∀ b, b ∈ F ∨ b ∈ GA ∨ b ∈ GB → w.heap.size ≤ b) ∧ (∃ y, wr = ext W y) ∧ Hid (MS rows out ls rs) ∧ out.length + ls.length + rs.length ≤ 1000000000 ∧ Hid (∀ b ∈ fpOf o, W.heap.size ≤ b)
theorem relI_step {rows ls rs out : List (List Int)} {w W wr wr' : World} {o v' : Value} {x : List Int} {Aa Ab : Option Addr} {ca cb : Nat} {F F' G GA GB : List Nat} (hpa : Part W Aa ls GA) (hpb : Part W Ab rs GB) (hca : ls.length ≤ ca) (hcb : rs.length ≤ cb) (hy : ∃ y, wr = ext W y) (hxW : w.heap.size ≤ W.heap.size)
    (hND : (F ++ (G ++ (GA ++ GB))).Nodup) (hNW : ∀ b, b ∈ F ∨ b ∈ G ∨ b ∈ GA ∨ b ∈ GB → w.heap.size ≤ b) (hFo : ∀ b ∈ fpOf o, W.heap.size ≤ b) (hS' : SV 22 1 sRow wr' v' (out ++ [x]) F') (hC' : Chg (fpOf o) wr wr') (hN' : F'.Nodup) (hF' : ∀ b ∈ F', b ∈ F ∨ b ∈ G ∨ wr.heap.size ≤ b)
    (hf' : ∀ b ∈ fpOf v', b ∈ fpOf o ∨ wr.heap.size ≤ b) (hM : MS rows (out ++ [x]) ls rs) (hlen : out.length + ls.length + rs.length + 1 ≤ 1000000000) : RelI rows w W (.slice Aa ls.length ca) (.slice Ab rs.length cb) v' wr' := by
  have hsz := size_of_ext hy
  refine ⟨ls, rs, out ++ [x], Aa, Ab, ca, cb, F', GA, GB, rfl, rfl, hca, hcb, hpa, hpb, hS', Lib.hid hN', Lib.hid (nd3' hND hN' hF' fun b hb => ?_), Lib.hid (fun b hb => ?_), hC'.isExt hy hFo, Lib.hid hM, by simp; omega, Lib.hid (fun b hb => ?_)⟩
  · rcases List.mem_append.1 hb with k | k
    · exact Nat.lt_of_lt_of_le (hpa.lt b k) hsz
    · exact Nat.lt_of_lt_of_le (hpb.lt b k) hsz
  · rcases hb with k | k
    · rcases hF' b k with k | k | k
      · exact hNW b (.inl k)
      · exact hNW b (.inr (.inl k))
      · omega
    · exact hNW b (.inr (.inr k))
  · rcases hf' b hb with k | k
    · exact hFo b k
    · omega
theorem ndL {F G1 G2 GB : List Nat} (h : (F ++ ((G1 ++ G2) ++ GB)).Nodup) : (F ++ (G1 ++ (G2 ++ GB))).Nodup := by rwa [List.append_assoc] at h
theorem ndR {F GA H1 H2 : List Nat} (h : (F ++ (GA ++ (H1 ++ H2))).Nodup) : (F ++ (H1 ++ (GA ++ H2))).Nodup := (List.Perm.append_left F (List.perm_append_comm_assoc GA H1 H2)).nodup_iff.1 h
theorem ndB {F G1 G2 H1 H2 : List Nat} (h : (F ++ ((G1 ++ G2) ++ (H1 ++ H2))).Nodup) : (F ++ (G1 ++ (G2 ++ H2))).Nodup := by
  have h1 := ndL h
  refine List.Sublist.nodup (List.Sublist.append_left (List.Sublist.append_left (List.Sublist.append_left (List.sublist_append_right _ _) _) _) _) h1
theorem RelI.meas {rows : List (List Int)} {w W wr : World} {a b o : Value} (_ : RelI rows w W a b o wr) : True := trivial
def CutS (la lb : List (List Int)) (w : World) (a b : Value) (W : World) : Prop := ∃ (Fa Fb : List Nat), SV 22 1 sRow W a la Fa ∧ SV 22 1 sRow W b lb Fb ∧ (Fa ++ Fb).Nodup ∧ (∀ x ∈ Fa ++ Fb, w.heap.size ≤ x) ∧ ∃ y, W = ext w y
set_option maxRecDepth 100000 in
set_option maxHeartbeats 16000000 in
theorem sorted_any : ∀ (n : Nat) (A : Option Addr) (c : Nat) (rows : List (List Int)) (w : World) (_ : rows.length ≤ n) (_ : rows.length ≤ 1000000000) (_ : rows.length ≤ c) (_ : ∀ x ∈ rows, x.length ≤ 1000000000) (_ : RII w A rows),
    Calls Try.prog 77 #[.slice A rows.length c] w (SrtO rows w) := by
  intro n
  induction n with
  | zero =>
    intro A c rows w hn hx hc hxl h1
    obtain rfl := List.eq_nil_of_length_eq_zero (Nat.le_zero.1 hn)
    clear hn
    go_enter Try.func77, Try.ntmps77
    go_wp2_with (go_at_call 124; refine (copyRows_any hx hxl h1).mono ?_; rintro e w1 ⟨v1, F1, rfl, hx1, hS1, hN1, hF1⟩)
    go_ret
    exact ⟨v1, F1, rfl, hx1, hS1, hN1, hF1⟩
  | succ n ih =>
    intro A c rows w hn hx hcap hxl h1
    have IH := Lib.hid ih
    have Hxl := Lib.hid hxl
    clear ih hxl
    by_cases hs : rows.length < 2
    · have HS := Lib.hid (sortR_small hs)
      go_enter Try.func77, Try.ntmps77
      go_wp2_with (go_at_call 124; refine (copyRows_any hx Hxl.out h1).mono ?_; rintro e w1 ⟨v1, F1, rfl, hx1, hS1, hN1, hF1⟩)
      go_ret
      exact ⟨v1, F1, rfl, hx1, by rw [HS.out]; exact hS1, hN1, hF1⟩
    · obtain ⟨m, hm⟩ : ∃ m, rows.length / 2 = m := ⟨_, rfl⟩
      have HM := Lib.hid (show (rows.length : Int) / 2 = (m : Int) by omega)
      have m1 : m < rows.length := by omega
      have m2 : 0 < m := by omega
      have hne : ¬ c = m := by omega
      have hn2 : rows.length - m ≤ n := by omega
      have hn1 : m ≤ n := by omega
      have q0 : (m : Int) ≤ (c : Int) := by omega
      obtain ⟨b, o, hA⟩ := h1.pl (by omega)
      subst hA
      have HL := Lib.hid (show (rows.take m).length = m by simp; omega)
      have HR := Lib.hid (show (rows.drop m).length = rows.length - m by simp)
      have hv1 := h1.pre m
      have hv2 := h1.from (q := m) (A' := some ⟨b, o + m, none⟩) (fun b' o' e _ => by injection e with e; injection e with e1 e2; subst e1 e2; simp)
      have I1 := Lib.hid (fun (w' : World) (hx' : ∃ y, w' = ext w y) => IH.out (some ⟨b, o, none⟩) c (rows.take m) w' (by rw [HL.out]; exact hn1) (by rw [HL.out]; omega) (by rw [HL.out]; omega) (fun x hx => Hxl.out x (List.mem_of_mem_take hx)) (hv1.toExt hx'))
      have I2 := Lib.hid (fun (w' : World) (hx' : ∃ y, w' = ext w y) => IH.out (some ⟨b, o + m, none⟩) (c - m) (rows.drop m) w' (by rw [HR.out]; exact hn2) (by rw [HR.out]; omega) (by rw [HR.out]; omega) (fun x hx => Hxl.out x (List.mem_of_mem_drop hx)) (hv2.toExt hx'))
      rw [HL.out] at I1
      rw [HR.out] at I2
      go_enter Try.func77, Try.ntmps77
      go_upto_region 4 with fail
      rw [HM.out]
      go_cut [4, 5] (CutS (sortR (rows.take m)) (sortR (rows.drop m)) w)
      case first =>
        go_region_held3 (fun _ => True) (trivial) (first
          | (go_at_call 77; ((with_reducible refine (I1.out _ ?_).mono ?_); (focus (exact (by refine Chg.isExt (F := []) ?_ (refl_ext _) (by simp); repeat (with_reducible (first | exact Chg.refl _ _ | exact Nat.le_refl _ | exact Chg.ofExt (by assumption) | refine Chg.trans0 ?_ (by assumption) | refine Chg.extS ?_ _ | refine Chg.alloc ?_ _ | refine Chg.drew ?_ | refine Chg.setCellE ?_ ?_ _ | refine le_addk ?_ _ | refine le_ext ?_ | refine le_alloc ?_ _ | refine le_setC ?_ _ _ | refine le_drew ?_ | assumption | (refine Nat.le_of_lt ?_; omega) | omega)))))); rintro e w1 ⟨va, Fa, rfl, hx1, hSa, hNa, hFa⟩)
          | (go_at_call 77; ((with_reducible refine (I2.out _ ?_).mono ?_); (focus (exact (by refine Chg.isExt (F := []) ?_ (refl_ext _) (by simp); repeat (with_reducible (first | exact Chg.refl _ _ | exact Nat.le_refl _ | exact Chg.ofExt (by assumption) | refine Chg.trans0 ?_ (by assumption) | refine Chg.extS ?_ _ | refine Chg.alloc ?_ _ | refine Chg.drew ?_ | refine Chg.setCellE ?_ ?_ _ | refine le_addk ?_ _ | refine le_ext ?_ | refine le_alloc ?_ _ | refine le_setC ?_ _ _ | refine le_drew ?_ | assumption | (refine Nat.le_of_lt ?_; omega) | omega)))))); rintro e W ⟨vb, Fb, rfl, hx2, hSb, hNb, hFb⟩))
        all_goals
          go_wp2_with fail
          go_meet
          have hx1' : ∃ y, w1 = ext w y := (by refine Chg.isExt (F := []) ?_ (refl_ext _) (by simp); repeat (with_reducible (first | exact Chg.refl _ _ | exact Nat.le_refl _ | exact Chg.ofExt (by assumption) | refine Chg.trans0 ?_ (by assumption) | refine Chg.extS ?_ _ | refine Chg.alloc ?_ _ | refine Chg.drew ?_ | refine Chg.setCellE ?_ ?_ _ | refine le_addk ?_ _ | refine le_ext ?_ | refine le_alloc ?_ _ | refine le_setC ?_ _ _ | refine le_drew ?_ | assumption | (refine Nat.le_of_lt ?_; omega) | omega)))
          have hz1 := size_of_ext hx1'
          have hlt := hSa.lt
          refine ⟨Fa, Fb, hSa.toExt hx2, hSb, nodup_more hNa hNb hlt hFb, fun x hx => ?_, trans_ext hx1' hx2⟩
          rcases List.mem_append.1 hx with k | k
          · exact hFa x k
          · have := hFb x k; omega
      obtain ⟨Fa, Fb, hSa, hSb, hNab, hnew, hxW⟩ := hcut
      obtain ⟨W, rfl⟩ : ∃ W, W = wc := ⟨_, rfl⟩
      obtain ⟨Aa, ca, rfl, hca, _⟩ := hSa.form
      obtain ⟨Ab, cb, rfl, hcb, _⟩ := hSb.form
      obtain ⟨Ga, hpa, e1⟩ := hSa.part
      obtain ⟨Gb, hpb, e2⟩ := hSb.part
      have hMS := MS.start (rows := rows) (a := sortR (rows.take m)) (b := sortR (rows.drop m)) (by rw [hm]) (by rw [hm])
      have hla := sortR_length (rows.take m)
      have hlb := sortR_length (rows.drop m)
      rw [HL.out] at hla
      rw [HR.out] at hlb
      have hNG : (Ga ++ Gb).Nodup := by
        rw [e1, e2, List.append_assoc] at hNab
        have h2 := (List.nodup_append.1 hNab).2.1
        rw [List.nodup_append] at h2 ⊢
        refine ⟨h2.1, (List.nodup_append.1 h2.2.1).2.1, fun x hx y hy => h2.2.2 x hx y (by simp [hy])⟩
      have hnG : ∀ x ∈ Ga ++ Gb, w.heap.size ≤ x := fun x hx => hnew x (by
        rw [e1, e2]
        rcases List.mem_append.1 hx with k | k <;> simp [k])
      obtain ⟨sa, hsa⟩ : ∃ s, sortR (rows.take m) = s := ⟨_, rfl⟩
      obtain ⟨sb, hsb⟩ : ∃ s, sortR (rows.drop m) = s := ⟨_, rfl⟩
      rw [hsa] at hMS hla hca hpa ⊢
      rw [hsb] at hMS hlb hcb hpb ⊢
      have HMS := Lib.hid hMS
      have HWw := Lib.hid (size_of_ext hxW)
      clear hMS hsa hsb hm hv1 hv2 h1 e1 e2 hNab hnew hSa hSb I1 I2 IH
      go_wp2_with fail
      go_loopw [4, 5, 6] (fun a b o wr => RelI rows w W a b o wr) (fun a b _ _ => slLen a + slLen b)
      case atStart =>
        refine ⟨sa, sb, [], Aa, Ab, ca, cb, [], Ga, Gb, rfl, rfl, hca, hcb, hpa, hpb, SV.nil, Lib.hid (by simp), Lib.hid (by simpa using hNG), Lib.hid (fun x hx => ?_), refl_ext W, HMS, by simp; omega, Lib.hid (by simp [fpOf, Value.ownBlock])⟩
        rcases hx with k | k | k
        · simp at k
        · exact hnG x (by simp [k])
        · exact hnG x (by simp [k])
      case round =>
        obtain ⟨ls, rs, out, Aa, Ab, ca, cb, F, GA, GB, rfl, rfl, hca, hcb, hpa, hpb, hS, HN, HND, HNW, hy, HM, hlen, HFo⟩ := hrel
        match ls, rs with
        | [], [] =>
          have HD := Lib.hid HM.out.done
          go_wp2
          go_ret
          exact ⟨_, F, rfl, trans_ext hxW hy, by rw [← HD.out]; exact hS, HN.out, fun x hx => HNW.out x (.inl hx)⟩
        | [], y :: rs =>
          obtain ⟨b2, o2, A2, c2, H1, H2, rfl, hb2, hc2, hE2, hv2, hl2, hpb', rfl, hpn2⟩ := hpb.head hy
          have hlt2 : rs.length + 1 ≤ cb := hcb
          have HST := Lib.hid (HM.out.right (by simp))
          have HNd := Lib.hid (ndR HND.out)
          have hNd1 := (nd3 HNd.out).1
          have hl9 : out.length + rs.length + 1 ≤ 1000000000 := by simp at hlen; omega
          have HNWr := Lib.hid (fun b (hb : b ∈ F ∨ b ∈ H1 ∨ b ∈ GA ∨ b ∈ H2) => HNW.out b (by rcases hb with k | k | k | k <;> simp [k]))
          by_cases e1 : cb = 1
          · obtain rfl : rs = [] := List.eq_nil_of_length_eq_zero (by omega)
            subst e1
            have hvq := hpn2 rfl
            clear hpn2
            go_wp2_with (at_builtin; refine wpList_appM (E := sRow) (d := y) (G := H1) rfl _ _ _ rfl tIIr rfl rfl rfl (by simp) ⟨_, rfl, hE2⟩ rfl (by simp [Value.oneCell']) hS hNd1 (by omega) (by omega) ?_; intro v' w' F' hS' hC' hN' hF' hf')
            exact ⟨relI_step (ls := []) (rs := []) (G := H1) hpa hvq hca (by simp) hy HWw.out HNd.out HNWr.out HFo.out hS' hC' hN' hF' hf' HST.out (by simpa using hl9), by simp [slLen]⟩
          · skip
            go_wp2_with (at_builtin; refine wpList_appM (E := sRow) (d := y) (G := H1) rfl _ _ _ rfl tIIr rfl rfl rfl (by simp) ⟨_, rfl, hE2⟩ rfl (by simp [Value.oneCell']) hS hNd1 (by omega) (by omega) ?_; intro v' w' F' hS' hC' hN' hF' hf')
            exact ⟨relI_step (ls := []) (rs := rs) (G := H1) hpa hpb' hca (by omega) hy HWw.out HNd.out HNWr.out HFo.out hS' hC' hN' hF' hf' HST.out (by simpa using hl9), by simp [slLen]⟩
        | x :: ls, [] =>
          obtain ⟨b1, o1, A1, c1, G1, G2, rfl, hb1, hc1, hE1, hv1, hl1, hpa', rfl, hpn1⟩ := hpa.head hy
          have hlt1 : ls.length + 1 ≤ ca := hca
          have HST := Lib.hid (HM.out.left (by simp))
          have HNd := Lib.hid (ndL HND.out)
          have hNd1 := (nd3 HNd.out).1
          have hl9 : out.length + ls.length + 1 ≤ 1000000000 := by simp at hlen; omega
          have HNWr := Lib.hid (fun b (hb : b ∈ F ∨ b ∈ G1 ∨ b ∈ G2 ∨ b ∈ GB) => HNW.out b (by rcases hb with k | k | k | k <;> simp [k]))
          by_cases e1 : ca = 1
          · obtain rfl : ls = [] := List.eq_nil_of_length_eq_zero (by omega)
            subst e1
            have hvq := hpn1 rfl
            clear hpn1
            go_wp2_with (at_builtin; refine wpList_appM (E := sRow) (d := x) (G := G1) rfl _ _ _ rfl tIIr rfl rfl rfl (by simp) ⟨_, rfl, hE1⟩ rfl (by simp [Value.oneCell']) hS hNd1 (by omega) (by omega) ?_; intro v' w' F' hS' hC' hN' hF' hf')
            exact ⟨relI_step (ls := []) (rs := []) (G := G1) hvq hpb (by simp) hcb hy HWw.out HNd.out HNWr.out HFo.out hS' hC' hN' hF' hf' HST.out (by simpa using hl9), by simp [slLen]⟩
          · skip
            go_wp2_with (at_builtin; refine wpList_appM (E := sRow) (d := x) (G := G1) rfl _ _ _ rfl tIIr rfl rfl rfl (by simp) ⟨_, rfl, hE1⟩ rfl (by simp [Value.oneCell']) hS hNd1 (by omega) (by omega) ?_; intro v' w' F' hS' hC' hN' hF' hf')
            exact ⟨relI_step (ls := ls) (rs := []) (G := G1) hpa' hpb (by omega) hcb hy HWw.out HNd.out HNWr.out HFo.out hS' hC' hN' hF' hf' HST.out (by simpa using hl9), by simp [slLen]⟩
        | x :: ls, y :: rs =>
          obtain ⟨b1, o1, A1, c1, G1, G2, rfl, hb1, hc1, hE1, hv1, hl1, hpa', rfl, hpn1⟩ := hpa.head hy
          have hlt1 : ls.length + 1 ≤ ca := hca
          obtain ⟨b2, o2, A2, c2, H1, H2, rfl, hb2, hc2, hE2, hv2, hl2, hpb', rfl, hpn2⟩ := hpb.head hy
          have hlt2 : rs.length + 1 ≤ cb := hcb
          have lx := Hxl.out x ((HM.out.m x).2 (by simp))
          have ly := Hxl.out y ((HM.out.m y).2 (by simp))
          have hl8 : out.length + ls.length + rs.length + 2 ≤ 1000000000 := by simp at hlen; omega
          have hl9 : out.length + 1 ≤ 2000000000 := by omega
          obtain ⟨C, hC⟩ : ∃ C, cmpL x y = C := ⟨_, rfl⟩
          have HC := Lib.hid hC
          by_cases h1 : 0 < C
          · have HST := Lib.hid (HM.out.right (lt_tail HM.out.sa (cmpL_pos (by rw [hC]; exact h1))))
            have HNd := Lib.hid (ndR HND.out)
            have hNd1 := (nd3 HNd.out).1
            have HNWr := Lib.hid (fun b (hb : b ∈ F ∨ b ∈ H1 ∨ b ∈ G1 ++ G2 ∨ b ∈ H2) => HNW.out b (by rcases hb with k | k | k | k <;> simp_all))
            have HPA := Lib.hid hpa
            have hCle : ¬ C ≤ 0 := by omega
            have hCge : 0 ≤ C := by omega
            clear hC hpn1 hpa' hpa
            go_upto_region 11 with fail
            refine wp_region_ext (by kernel_rfl) (by kernel_rfl) ?_
            repeat (go_big_quiet_step ((go_at_call 125; exact quietEj (CompareRows_any lx (hv1.toExt (by refine Chg.isExt (F := []) ?_ (refl_ext _) (by simp); repeat (with_reducible (first | exact Chg.refl _ _ | exact Nat.le_refl _ | exact Chg.ofExt (by assumption) | refine Chg.trans0 ?_ (by assumption) | refine Chg.extS ?_ _ | refine Chg.alloc ?_ _ | refine Chg.drew ?_ | refine Chg.setCellE ?_ ?_ _ | refine le_addk ?_ _ | refine le_ext ?_ | refine le_alloc ?_ _ | refine le_setC ?_ _ _ | refine le_drew ?_ | assumption | (refine Nat.le_of_lt ?_; omega) | omega)))) ly (hv2.toExt (by refine Chg.isExt (F := []) ?_ (refl_ext _) (by simp); repeat (with_reducible (first | exact Chg.refl _ _ | exact Nat.le_refl _ | exact Chg.ofExt (by assumption) | refine Chg.trans0 ?_ (by assumption) | refine Chg.extS ?_ _ | refine Chg.alloc ?_ _ | refine Chg.drew ?_ | refine Chg.setCellE ?_ ?_ _ | refine le_addk ?_ _ | refine le_ext ?_ | refine le_alloc ?_ _ | refine le_setC ?_ _ _ | refine le_drew ?_ | assumption | (refine Nat.le_of_lt ?_; omega) | omega))))) HC.out)))
            refine wpQuiet_nil ?_
            rintro _ ⟨zz, rfl⟩
            have hS := hS.toExt (⟨zz, rfl⟩ : ∃ y, ext wr zz = ext wr y)
            have hE1 := hE1.toExt (⟨zz, rfl⟩ : ∃ y, ext wr zz = ext wr y)
            have hE2 := hE2.toExt (⟨zz, rfl⟩ : ∃ y, ext wr zz = ext wr y)
            by_cases e1 : cb = 1
            · obtain rfl : rs = [] := List.eq_nil_of_length_eq_zero (by omega)
              subst e1
              have hvq := hpn2 rfl
              clear hpn2
              go_wp2_with (at_builtin; refine wpList_appM (E := sRow) (d := y) (G := H1) rfl _ _ _ rfl tIIr rfl rfl rfl (by simp) ⟨_, rfl, hE2⟩ rfl (by simp [Value.oneCell']) hS hNd1 (by omega) (by omega) ?_; intro v' w' F' hS' hC' hN' hF' hf')
              exact ⟨relI_step (ls := x :: ls) (rs := []) (G := H1) HPA.out hvq hca (by simp) (by exact (by refine Chg.isExt (F := []) ?_ (refl_ext _) (by simp); repeat (with_reducible (first | exact Chg.refl _ _ | exact Nat.le_refl _ | exact Chg.ofExt (by assumption) | refine Chg.trans0 ?_ (by assumption) | refine Chg.extS ?_ _ | refine Chg.alloc ?_ _ | refine Chg.drew ?_ | refine Chg.setCellE ?_ ?_ _ | refine le_addk ?_ _ | refine le_ext ?_ | refine le_alloc ?_ _ | refine le_setC ?_ _ _ | refine le_drew ?_ | assumption | (refine Nat.le_of_lt ?_; omega) | omega)))) HWw.out HNd.out HNWr.out HFo.out hS' hC' hN' hF' hf' HST.out (by simp at hl8 ⊢; omega), by simp [slLen]⟩
            · skip
              go_wp2_with (at_builtin; refine wpList_appM (E := sRow) (d := y) (G := H1) rfl _ _ _ rfl tIIr rfl rfl rfl (by simp) ⟨_, rfl, hE2⟩ rfl (by simp [Value.oneCell']) hS hNd1 (by omega) (by omega) ?_; intro v' w' F' hS' hC' hN' hF' hf')
              exact ⟨relI_step (ls := x :: ls) (rs := rs) (G := H1) HPA.out hpb' hca (by omega) (by exact (by refine Chg.isExt (F := []) ?_ (refl_ext _) (by simp); repeat (with_reducible (first | exact Chg.refl _ _ | exact Nat.le_refl _ | exact Chg.ofExt (by assumption) | refine Chg.trans0 ?_ (by assumption) | refine Chg.extS ?_ _ | refine Chg.alloc ?_ _ | refine Chg.drew ?_ | refine Chg.setCellE ?_ ?_ _ | refine le_addk ?_ _ | refine le_ext ?_ | refine le_alloc ?_ _ | refine le_setC ?_ _ _ | refine le_drew ?_ | assumption | (refine Nat.le_of_lt ?_; omega) | omega)))) HWw.out HNd.out HNWr.out HFo.out hS' hC' hN' hF' hf' HST.out (by simp at hl8 ⊢; omega), by simp [slLen]⟩
          · by_cases h2 : C = 0
            · obtain rfl : x = y := cmpL_zero.1 (by rw [hC]; exact h2)
              subst h2
              have HST := Lib.hid HM.out.both
              have HNd := Lib.hid (ndB HND.out)
              have hNd1 := (nd3 HNd.out).1
              have HNWr := Lib.hid (fun b (hb : b ∈ F ∨ b ∈ G1 ∨ b ∈ G2 ∨ b ∈ H2) => HNW.out b (by rcases hb with k | k | k | k <;> simp [k]))
              have HPA1 := Lib.hid hpn1
              have HPB1 := Lib.hid hpn2
              clear hC hpn1 hpn2
              go_upto_region 11 with fail
              refine wp_region_ext (by kernel_rfl) (by kernel_rfl) ?_
              repeat (go_big_quiet_step ((go_at_call 125; exact quietEj (CompareRows_any lx (hv1.toExt (by refine Chg.isExt (F := []) ?_ (refl_ext _) (by simp); repeat (with_reducible (first | exact Chg.refl _ _ | exact Nat.le_refl _ | exact Chg.ofExt (by assumption) | refine Chg.trans0 ?_ (by assumption) | refine Chg.extS ?_ _ | refine Chg.alloc ?_ _ | refine Chg.drew ?_ | refine Chg.setCellE ?_ ?_ _ | refine le_addk ?_ _ | refine le_ext ?_ | refine le_alloc ?_ _ | refine le_setC ?_ _ _ | refine le_drew ?_ | assumption | (refine Nat.le_of_lt ?_; omega) | omega)))) ly (hv2.toExt (by refine Chg.isExt (F := []) ?_ (refl_ext _) (by simp); repeat (with_reducible (first | exact Chg.refl _ _ | exact Nat.le_refl _ | exact Chg.ofExt (by assumption) | refine Chg.trans0 ?_ (by assumption) | refine Chg.extS ?_ _ | refine Chg.alloc ?_ _ | refine Chg.drew ?_ | refine Chg.setCellE ?_ ?_ _ | refine le_addk ?_ _ | refine le_ext ?_ | refine le_alloc ?_ _ | refine le_setC ?_ _ _ | refine le_drew ?_ | assumption | (refine Nat.le_of_lt ?_; omega) | omega))))) HC.out)))
              refine wpQuiet_nil ?_
              rintro _ ⟨zz, rfl⟩
              have hS := hS.toExt (⟨zz, rfl⟩ : ∃ y, ext wr zz = ext wr y)
              have hE1 := hE1.toExt (⟨zz, rfl⟩ : ∃ y, ext wr zz = ext wr y)
              have hE2 := hE2.toExt (⟨zz, rfl⟩ : ∃ y, ext wr zz = ext wr y)
              by_cases e1 : ca = 1
              · obtain rfl : ls = [] := List.eq_nil_of_length_eq_zero (by omega)
                subst e1
                by_cases e2 : cb = 1
                · obtain rfl : rs = [] := List.eq_nil_of_length_eq_zero (by omega)
                  subst e2
                  go_wp2_with (at_builtin; refine wpList_appM (E := sRow) (d := x) (G := G1) rfl _ _ _ rfl tIIr rfl rfl rfl (by simp) ⟨_, rfl, hE1⟩ rfl (by simp [Value.oneCell']) hS hNd1 (by omega) (by omega) ?_; intro v' w' F' hS' hC' hN' hF' hf')
                  exact ⟨relI_step (ls := []) (rs := []) (G := G1) (HPA1.out rfl) (HPB1.out rfl) (by simp) (by simp) (by exact (by refine Chg.isExt (F := []) ?_ (refl_ext _) (by simp); repeat (with_reducible (first | exact Chg.refl _ _ | exact Nat.le_refl _ | exact Chg.ofExt (by assumption) | refine Chg.trans0 ?_ (by assumption) | refine Chg.extS ?_ _ | refine Chg.alloc ?_ _ | refine Chg.drew ?_ | refine Chg.setCellE ?_ ?_ _ | refine le_addk ?_ _ | refine le_ext ?_ | refine le_alloc ?_ _ | refine le_setC ?_ _ _ | refine le_drew ?_ | assumption | (refine Nat.le_of_lt ?_; omega) | omega)))) HWw.out HNd.out HNWr.out HFo.out hS' hC' hN' hF' hf' HST.out (by simp at hl8 ⊢; omega), by simp [slLen]⟩
                · skip
                  go_wp2_with (at_builtin; refine wpList_appM (E := sRow) (d := x) (G := G1) rfl _ _ _ rfl tIIr rfl rfl rfl (by simp) ⟨_, rfl, hE1⟩ rfl (by simp [Value.oneCell']) hS hNd1 (by omega) (by omega) ?_; intro v' w' F' hS' hC' hN' hF' hf')
                  exact ⟨relI_step (ls := []) (rs := rs) (G := G1) (HPA1.out rfl) hpb' (by simp) (by omega) (by exact (by refine Chg.isExt (F := []) ?_ (refl_ext _) (by simp); repeat (with_reducible (first | exact Chg.refl _ _ | exact Nat.le_refl _ | exact Chg.ofExt (by assumption) | refine Chg.trans0 ?_ (by assumption) | refine Chg.extS ?_ _ | refine Chg.alloc ?_ _ | refine Chg.drew ?_ | refine Chg.setCellE ?_ ?_ _ | refine le_addk ?_ _ | refine le_ext ?_ | refine le_alloc ?_ _ | refine le_setC ?_ _ _ | refine le_drew ?_ | assumption | (refine Nat.le_of_lt ?_; omega) | omega)))) HWw.out HNd.out HNWr.out HFo.out hS' hC' hN' hF' hf' HST.out (by simp at hl8 ⊢; omega), by simp [slLen]; omega⟩
              · by_cases e2 : cb = 1
                · obtain rfl : rs = [] := List.eq_nil_of_length_eq_zero (by omega)
                  subst e2
                  go_wp2_with (at_builtin; refine wpList_appM (E := sRow) (d := x) (G := G1) rfl _ _ _ rfl tIIr rfl rfl rfl (by simp) ⟨_, rfl, hE1⟩ rfl (by simp [Value.oneCell']) hS hNd1 (by omega) (by omega) ?_; intro v' w' F' hS' hC' hN' hF' hf')
                  exact ⟨relI_step (ls := ls) (rs := []) (G := G1) hpa' (HPB1.out rfl) (by omega) (by simp) (by exact (by refine Chg.isExt (F := []) ?_ (refl_ext _) (by simp); repeat (with_reducible (first | exact Chg.refl _ _ | exact Nat.le_refl _ | exact Chg.ofExt (by assumption) | refine Chg.trans0 ?_ (by assumption) | refine Chg.extS ?_ _ | refine Chg.alloc ?_ _ | refine Chg.drew ?_ | refine Chg.setCellE ?_ ?_ _ | refine le_addk ?_ _ | refine le_ext ?_ | refine le_alloc ?_ _ | refine le_setC ?_ _ _ | refine le_drew ?_ | assumption | (refine Nat.le_of_lt ?_; omega) | omega)))) HWw.out HNd.out HNWr.out HFo.out hS' hC' hN' hF' hf' HST.out (by simp at hl8 ⊢; omega), by simp [slLen]; omega⟩
                · skip
                  go_wp2_with (at_builtin; refine wpList_appM (E := sRow) (d := x) (G := G1) rfl _ _ _ rfl tIIr rfl rfl rfl (by simp) ⟨_, rfl, hE1⟩ rfl (by simp [Value.oneCell']) hS hNd1 (by omega) (by omega) ?_; intro v' w' F' hS' hC' hN' hF' hf')
                  exact ⟨relI_step (ls := ls) (rs := rs) (G := G1) hpa' hpb' (by omega) (by omega) (by exact (by refine Chg.isExt (F := []) ?_ (refl_ext _) (by simp); repeat (with_reducible (first | exact Chg.refl _ _ | exact Nat.le_refl _ | exact Chg.ofExt (by assumption) | refine Chg.trans0 ?_ (by assumption) | refine Chg.extS ?_ _ | refine Chg.alloc ?_ _ | refine Chg.drew ?_ | refine Chg.setCellE ?_ ?_ _ | refine le_addk ?_ _ | refine le_ext ?_ | refine le_alloc ?_ _ | refine le_setC ?_ _ _ | refine le_drew ?_ | assumption | (refine Nat.le_of_lt ?_; omega) | omega)))) HWw.out HNd.out HNWr.out HFo.out hS' hC' hN' hF' hf' HST.out (by simp at hl8 ⊢; omega), by simp [slLen]; omega⟩
            · have HST := Lib.hid (HM.out.left (lt_tail HM.out.sb (by rw [hC]; omega)))
              have HNd := Lib.hid (ndL HND.out)
              have hNd1 := (nd3 HNd.out).1
              have HNWr := Lib.hid (fun b (hb : b ∈ F ∨ b ∈ G1 ∨ b ∈ G2 ∨ b ∈ H1 ++ H2) => HNW.out b (by rcases hb with k | k | k | k <;> simp_all))
              have HPB := Lib.hid hpb
              have hCle : C ≤ 0 := by omega
              have hCge : ¬ 0 ≤ C := by omega
              clear hC hpn2 hpb' hpb
              go_upto_region 11 with fail
              refine wp_region_ext (by kernel_rfl) (by kernel_rfl) ?_
              repeat (go_big_quiet_step ((go_at_call 125; exact quietEj (CompareRows_any lx (hv1.toExt (by refine Chg.isExt (F := []) ?_ (refl_ext _) (by simp); repeat (with_reducible (first | exact Chg.refl _ _ | exact Nat.le_refl _ | exact Chg.ofExt (by assumption) | refine Chg.trans0 ?_ (by assumption) | refine Chg.extS ?_ _ | refine Chg.alloc ?_ _ | refine Chg.drew ?_ | refine Chg.setCellE ?_ ?_ _ | refine le_addk ?_ _ | refine le_ext ?_ | refine le_alloc ?_ _ | refine le_setC ?_ _ _ | refine le_drew ?_ | assumption | (refine Nat.le_of_lt ?_; omega) | omega)))) ly (hv2.toExt (by refine Chg.isExt (F := []) ?_ (refl_ext _) (by simp); repeat (with_reducible (first | exact Chg.refl _ _ | exact Nat.le_refl _ | exact Chg.ofExt (by assumption) | refine Chg.trans0 ?_ (by assumption) | refine Chg.extS ?_ _ | refine Chg.alloc ?_ _ | refine Chg.drew ?_ | refine Chg.setCellE ?_ ?_ _ | refine le_addk ?_ _ | refine le_ext ?_ | refine le_alloc ?_ _ | refine le_setC ?_ _ _ | refine le_drew ?_ | assumption | (refine Nat.le_of_lt ?_; omega) | omega))))) HC.out)))
              refine wpQuiet_nil ?_
              rintro _ ⟨zz, rfl⟩
              have hS := hS.toExt (⟨zz, rfl⟩ : ∃ y, ext wr zz = ext wr y)
              have hE1 := hE1.toExt (⟨zz, rfl⟩ : ∃ y, ext wr zz = ext wr y)
              have hE2 := hE2.toExt (⟨zz, rfl⟩ : ∃ y, ext wr zz = ext wr y)
              by_cases e1 : ca = 1
              · obtain rfl : ls = [] := List.eq_nil_of_length_eq_zero (by omega)
                subst e1
                have hvq := hpn1 rfl
                clear hpn1
                go_wp2_with (at_builtin; refine wpList_appM (E := sRow) (d := x) (G := G1) rfl _ _ _ rfl tIIr rfl rfl rfl (by simp) ⟨_, rfl, hE1⟩ rfl (by simp [Value.oneCell']) hS hNd1 (by omega) (by omega) ?_; intro v' w' F' hS' hC' hN' hF' hf')
                exact ⟨relI_step (ls := []) (rs := y :: rs) (G := G1) hvq HPB.out (by simp) hcb (by exact (by refine Chg.isExt (F := []) ?_ (refl_ext _) (by simp); repeat (with_reducible (first | exact Chg.refl _ _ | exact Nat.le_refl _ | exact Chg.ofExt (by assumption) | refine Chg.trans0 ?_ (by assumption) | refine Chg.extS ?_ _ | refine Chg.alloc ?_ _ | refine Chg.drew ?_ | refine Chg.setCellE ?_ ?_ _ | refine le_addk ?_ _ | refine le_ext ?_ | refine le_alloc ?_ _ | refine le_setC ?_ _ _ | refine le_drew ?_ | assumption | (refine Nat.le_of_lt ?_; omega) | omega)))) HWw.out HNd.out HNWr.out HFo.out hS' hC' hN' hF' hf' HST.out (by simp at hl8 ⊢; omega), by simp [slLen]⟩
              · skip
                go_wp2_with (at_builtin; refine wpList_appM (E := sRow) (d := x) (G := G1) rfl _ _ _ rfl tIIr rfl rfl rfl (by simp) ⟨_, rfl, hE1⟩ rfl (by simp [Value.oneCell']) hS hNd1 (by omega) (by omega) ?_; intro v' w' F' hS' hC' hN' hF' hf')
                exact ⟨relI_step (ls := ls) (rs := y :: rs) (G := G1) hpa' HPB.out (by omega) hcb (by exact (by refine Chg.isExt (F := []) ?_ (refl_ext _) (by simp); repeat (with_reducible (first | exact Chg.refl _ _ | exact Nat.le_refl _ | exact Chg.ofExt (by assumption) | refine Chg.trans0 ?_ (by assumption) | refine Chg.extS ?_ _ | refine Chg.alloc ?_ _ | refine Chg.drew ?_ | refine Chg.setCellE ?_ ?_ _ | refine le_addk ?_ _ | refine le_ext ?_ | refine le_alloc ?_ _ | refine le_setC ?_ _ _ | refine le_drew ?_ | assumption | (refine Nat.le_of_lt ?_; omega) | omega)))) HWw.out HNd.out HNWr.out HFo.out hS' hC' hN' hF' hf' HST.out (by simp at hl8 ⊢; omega), by simp [slLen]⟩
end Go.Proofs.Ytgoleefkbjjidaa

/- Appending one element that lies in a block known whole, at a step of a drawn region or of a plain one. No program in it. -/
namespace Go.Proofs.Ytgoleefkbjjidaa
open Go.RowKit

section
variable {P : Program} {w : World}
theorem wp_appB {o : Oper} {a : Act} {K : Act → World → Prop} {Q : Exit → Act → World → Prop} (s x : Operand) (t : TypeId)
    (ho : o.op = .call { callee := .builtin .append, args := #[s, x], argTypes := #[t, t] })
    {α : Type} {E : SE α} [SMono E] {te size bytes : Nat} {z : Value} (hT : SlT P t te size bytes z) {v : Value} {ds : List α} {F G : List Nat} {cs : Array Value} {d : α} {c b0 : Nat} (hs : a.eval s = v) (hx : a.eval x = .slice (some ⟨b0, 0, none⟩) 1 c) (hB : BoxAt w b0 cs)
    (hE : E w cs.toList d G) (hc : cs.size = size) (h1 : ∀ u ∈ cs.toList, u.oneCell' = true)
    (hS : SV te size E w v ds F) (hN : (F ++ G).Nodup) (hlen : ds.length + 1 ≤ 2000000000) (hby : bytes ≤ 60000)
    (h : ∀ v' w' F', SV te size E w' v' (ds ++ [d]) F' → Chg F w w' → F'.Nodup → (∀ b ∈ F', b ∈ F ∨ b ∈ G ∨ w.heap.size ≤ b) → K (a.put o.dst v') w') : o.wp P a w K Q := by
  refine wp_appS _ s x t ho hT hs hS (List.nodup_append.1 hN).1 hx (cs := cs.toList) (es := [d]) (G := G) (fun j u hj => ?_) h1 rfl (elems_one (by simpa using hc) hE) hN hlen hby h
  have e : (⟨b0, 0, none⟩ : Addr).add j = ⟨b0, j, none⟩ := by
    unfold Addr.add
    split
    · rename_i h; subst h; rfl
    · simp
  rw [e, hB.2.1 j]
  simpa using hj
theorem step_appB {ops : Array Oper} {o : Oper} {a : Act} {K : Act → World → Prop} {Q : Exit → Act → World → Prop} {X : Prop} (hgd : o.guard = none) (s x : Operand) (t : TypeId)
    (ho : o.op = .call { callee := .builtin .append, args := #[s, x], argTypes := #[t, t] })
    {α : Type} {E : SE α} [SMono E] {te size bytes : Nat} {z : Value} (hT : SlT P t te size bytes z) {v : Value} {ds : List α} {F G : List Nat} {cs : Array Value} {d : α} {c b0 : Nat} (hs : a.eval s = v) (hx : a.eval x = .slice (some ⟨b0, 0, none⟩) 1 c) (hB : BoxAt w b0 cs)
    (hE : E w cs.toList d G) (hc : cs.size = size) (h1 : ∀ u ∈ cs.toList, u.oneCell' = true)
    (hS : SV te size E w v ds F) (hN : (F ++ G).Nodup) (hlen : ds.length + 1 ≤ 2000000000) (hby : bytes ≤ 60000)
    (h : ∀ v' w' F', SV te size E w' v' (ds ++ [d]) F' → Chg F w w' → F'.Nodup → (∀ b ∈ F', b ∈ F ∨ b ∈ G ∨ w.heap.size ≤ b) → K (a.put o.dst v') w') :
    if Region.wanted o (yielded ops a.tmps) = true then Oper.wp P o a w K Q else X := by
  have hwt : Region.wanted o (yielded ops a.tmps) = true := by simp [Region.wanted, hgd]
  rw [if_pos hwt]
  exact wp_appB s x t ho hT hs hx hB hE hc h1 hS hN hlen hby h
end
end Go.Proofs.Ytgoleefkbjjidaa

/- A relation copied by the reference, row by row into a field. -/
namespace Go.Proofs.Ytgoleefkbjjidaa
open Go.RowKit

set_option maxRecDepth 100000 in
set_option maxHeartbeats 16000000 in
theorem l5Copy_any {z : Int} {A : Option Addr} {c : Nat} {rows : List (List Int)} {w : World} (hx : rows.length ≤ 1000000000) (hxl : ∀ x ∈ rows, x.length ≤ 1000000000) (h1 : RII w A rows) :
    Calls Try.prog 122 #[.agg #[.int .i64 z, .slice A rows.length c]] w fun e w' => ∃ v0 v1 F, e = .returned (.agg #[v0, v1]) ∧ (∃ y, w' = ext w y) ∧ sRel w' [v0, v1] (z, rows) F ∧ F.Nodup ∧ ∀ b ∈ F, w.heap.size ≤ b := by
  have Hxl := Lib.hid hxl
  clear hxl
  go_enter Try.func122, Try.ntmps122
  go_upto_region 1 with fail
  refine wp_name ?_
  intro w0 hw0
  have hx0 : ∃ y, w0 = ext w y := by rw [hw0.out]; exact (by refine Chg.isExt (F := []) ?_ (refl_ext _) (by simp); repeat (with_reducible (first | exact Chg.refl _ _ | exact Nat.le_refl _ | exact Chg.ofExt (by assumption) | refine Chg.trans0 ?_ (by assumption) | refine Chg.extS ?_ _ | refine Chg.alloc ?_ _ | refine Chg.drew ?_ | refine Chg.setCellE ?_ ?_ _ | refine le_addk ?_ _ | refine le_ext ?_ | refine le_alloc ?_ _ | refine le_setC ?_ _ _ | refine le_drew ?_ | assumption | (refine Nat.le_of_lt ?_; omega) | omega)))
  have P0 : BoxAt w0 w.heap.size #[.int .i64 z, .slice A rows.length c] := by rw [hw0.out]; exact (by repeat (with_reducible (first | assumption | exact BoxAt.new _ _ _ | apply BoxAt.set2 | refine BoxAt.set2' ?_ (by omega) | apply BoxAt.setP0 | apply BoxAt.setP1 | refine BoxAt.setO ?_ (by omega) | refine BoxAt.alloc ?_ _ | refine BoxAt.drew ?_ | refine BoxAt.toExt ?_ (by assumption))))
  have R0 : BoxAt w0 (w.heap.size + 1) #[.int .i64 0, .slice none 0 0] := by
    rw [hw0.out]
    simpa using BoxAt.new (w.alloc (.cells #[.int .i64 z, .slice A rows.length c] 29)) #[.int .i64 0, .slice none 0 0] 29
  obtain ⟨l0, k0, k0', f0⟩ := bx2 P0
  obtain ⟨m0, n0, n0', g0⟩ := bx2 R0
  clear hw0
  go_upto_region 2 with fail
  refine wp_name ?_
  intro W hW
  have xW : ∃ y, W = ext w0 y := by rw [hW.out]; exact (by refine Chg.isExt (F := []) ?_ (refl_ext _) (by simp); repeat (with_reducible (first | exact Chg.refl _ _ | exact Nat.le_refl _ | exact Chg.ofExt (by assumption) | refine Chg.trans0 ?_ (by assumption) | refine Chg.extS ?_ _ | refine Chg.alloc ?_ _ | refine Chg.drew ?_ | refine Chg.setCellE ?_ ?_ _ | refine le_addk ?_ _ | refine le_ext ?_ | refine le_alloc ?_ _ | refine le_setC ?_ _ _ | refine le_drew ?_ | assumption | (refine Nat.le_of_lt ?_; omega) | omega)))
  have X0 : BoxAt W w0.heap.size #[.int .i64 z, .slice none 0 0] := by rw [hW.out]; exact (by repeat (with_reducible (first | assumption | exact BoxAt.new _ _ _ | apply BoxAt.set2 | refine BoxAt.set2' ?_ (by omega) | apply BoxAt.setP0 | apply BoxAt.setP1 | refine BoxAt.setO ?_ (by omega) | refine BoxAt.alloc ?_ _ | refine BoxAt.drew ?_ | refine BoxAt.toExt ?_ (by assumption))))
  have P1 := P0.toExt xW
  have R1 := R0.toExt xW
  have hxw := trans_ext hx0 xW
  have h1' := h1.toExt hxw
  have hpx : w.heap.size ≠ w0.heap.size := by omega
  have hrx : w.heap.size + 1 ≠ w0.heap.size := by omega
  have hw0s : w.heap.size < w0.heap.size := l0
  obtain ⟨bX, qX⟩ : ∃ b, w0.heap.size = b := ⟨_, rfl⟩
  rw [qX] at X0 hpx hrx hw0s ⊢
  have hXw : bX < W.heap.size := X0.1
  have hsz := Lib.hid (size_of_ext hxw)
  clear hW qX P0 R0 l0 k0 k0' f0 m0 n0 n0' g0
  go_wp2
  go_loopw [4] (fun i wr => ∃ (k : Nat) (A' : Option Addr) (c' : Nat) (F : List Nat), i = .int .i64 k ∧ k ≤ rows.length ∧ BoxAt wr bX #[.int .i64 z, .slice A' k c'] ∧ SV 22 1 (sSl 3 1 sI) wr (.slice A' k c') (rows.take k) F ∧ F.Nodup ∧ (∀ b ∈ F, W.heap.size ≤ b) ∧ Chg [bX] W wr) (fun i _ => rows.length - (intOf i).toNat)
  case atStart => exact ⟨0, none, 0, [], rfl, by omega, X0, SV.nil, by simp, by simp, Chg.refl _ _⟩
  case round =>
    obtain ⟨k, A', c', F, rfl, hk, hB, hS, hN, hF, hC⟩ := hrel
    have hw : ∃ y, wr = ext w y := hC.isExt hxw (by simpa using Nat.le_of_lt hw0s)
    obtain ⟨lp, p0, p0', fp⟩ := bx2 (P1.chg hC (by simpa using hpx))
    obtain ⟨lx0, q0, q0', fx⟩ := bx2 hB
    have HN := Lib.hid hN
    have HF := Lib.hid hF
    have HC := Lib.hid hC
    have HB := Lib.hid hB
    by_cases hlt : k < rows.length
    · obtain ⟨b, o, A1, c1, rfl, hb, hc, hv⟩ := (h1.toExt hw).atV hlt
      have lx := Hxl.out rows[k] (List.getElem_mem hlt)
      have Ht := Lib.hid (show rows.take (k + 1) = rows.take k ++ [rows[k]] from List.take_succ_eq_append_getElem hlt)
      have hlk : (rows.take k).length + 1 ≤ 2000000000 := by simp; omega
      have HL := Lib.hid (show (rows.take k).length = k by simp; omega)
      have hSlt := Lib.hid hS.lt
      have HS := Lib.hid hS
      have hsC := hC.size
      have HP := Lib.hid (P1.chg hC (by simpa using hpx))
      have HV := Lib.hid hv
      obtain ⟨x, hx1⟩ : ∃ x, rows[k] = x := ⟨_, rfl⟩
      rw [hx1] at hc lx Ht HV
      have hbX : bX < wr.heap.size := hB.1
      have hXF : bX ∉ F := fun h => by have := hF bX h; omega
      clear hx1 hv hN hF hC hB hS
      go_upto_region 5 with fail
      go_region_law (first
        | (refine step_appV (E := sI) (V := vI) (es := x) (by rfl) _ _ _ (by rfl) tI (by rfl) ((SV.empty wr).toExt (drew_ext _)) (by rfl) (by rfl) (HV.out.toExt (by refine Chg.isExt (F := []) ?_ (refl_ext _) (by simp); repeat (with_reducible (first | exact Chg.refl _ _ | exact Nat.le_refl _ | exact Chg.ofExt (by assumption) | refine Chg.trans0 ?_ (by assumption) | refine Chg.extS ?_ _ | refine Chg.alloc ?_ _ | refine Chg.drew ?_ | refine Chg.setCellE ?_ ?_ _ | refine le_addk ?_ _ | refine le_ext ?_ | refine le_alloc ?_ _ | refine le_setC ?_ _ _ | refine le_drew ?_ | assumption | (refine Nat.le_of_lt ?_; omega) | omega)))) vI_s vI_1 (by simp; omega) (by omega) ?_; intro v6 w6 F6 hS6 hC6 hF6; obtain ⟨A6, c6, rfl, _, _⟩ := hS6.form; have B6 := ((HB.out.alloc (.cells #[] 3)).drew).chg hC6 (by simp; omega); obtain ⟨l6, q6, q6', f6⟩ := bx2 B6; obtain ⟨m6, p6, p6', g6⟩ := bx2 (((HP.out.alloc (.cells #[] 3)).drew).chg hC6 (by simp; omega)))
        | (refine step_appB (E := sSl 3 1 sI) (d := x) (G := F6) (by rfl) _ _ _ (by rfl) tIIr (by rfl) (by rfl) (by exact BoxAt.new _ _ _) ⟨_, rfl, hS6.toExt (alloc_ext _ _)⟩ (by rfl) (by simp [Value.oneCell']) (((HS.out.toExt (trans_ext (alloc_ext _ _) (drew_ext _))).chg hC6 (fun b hb h => by have := hSlt.out b hb; simp at h; omega)).toExt (alloc_ext _ _)) (nodup_more HN.out hS6.nodup hSlt.out (fun b hb => by rcases hF6 b hb with h | h <;> simp at h <;> omega)) (by rw [HL.out]; omega) (by omega) ?_; intro v7 w7 F7 hS7 hC7 hN7 hF7; obtain ⟨A7, c7, rfl, _, _⟩ := hS7.form; have B7 := (B6.alloc (.cells #[.slice A6 x.length c6] 22)).chg hC7 hXF; obtain ⟨l7, q7, q7', f7⟩ := bx2 B7))
      all_goals
        have hz6 := hC6.size
        simp only [World.size_alloc, World.drew] at hz6
        have hn6 : ∀ b ∈ F6, wr.heap.size ≤ b := fun b hb => by
          rcases hF6 b hb with h | h
          · simp at h; omega
          · simp at h; omega
        have hF7n : ∀ b ∈ F7, W.heap.size ≤ b := fun b hb => by
          rcases hF7 b hb with h | h | h
          · exact HF.out b h
          · have := hn6 b h; omega
          · rw [World.size_alloc] at h; omega
        have hCa := (((((HC.out.alloc (.cells #[] 3)).drew).trans hC6 (fun x hx => .inr (by simp at hx; omega))).alloc (.cells #[.slice A6 x.length c6] 22)).trans hC7 (fun x hx => .inr (HF.out x hx))).setCell (p := ⟨bX, 1, none⟩) (.inl (by simp)) (.slice A7 ((rows.take k) ++ [x]).length c7)
        have hSf := hS7.chg ((Chg.refl [bX] w7).setCell (p := ⟨bX, 1, none⟩) (.inl (by simp)) (.slice A7 ((rows.take k) ++ [x]).length c7)) (fun b hb h => by have := hF7n b hb; rw [List.mem_singleton.1 h] at this; omega)
        have hBf := B7.setP1 (v' := .slice A7 ((rows.take k) ++ [x]).length c7)
        have hl1 : ((rows.take k) ++ [x]).length = k + 1 := by simp; omega
        rw [hl1, ← Ht.out] at hSf
        rw [hl1] at hBf hCa
        have HH := Lib.hid (And.intro hSf (And.intro hBf (And.intro hCa hF7n)))
        have HN7 := Lib.hid hN7
        have HL1 := Lib.hid hl1
        clear hCa hF7n hSf hBf hS7 hC7 hN7 hF7 B7 hS6 hF6 hn6 hl1
        go_wp2
        exact ⟨⟨k + 1, A7, c7, F7, by go_num, by omega, HH.out.2.1, HH.out.1, HN7.out, HH.out.2.2.2, HH.out.2.2.1⟩, by simp [intOf]; omega⟩
    · obtain rfl : k = rows.length := by omega
      rw [List.take_of_length_le (Nat.le_refl _)] at hS
      have R2 := R1.chg hC (by simpa using hrx)
      obtain ⟨m0, n0, n0', g0⟩ := bx2 R2
      have hXw : bX < wr.heap.size := hB.1
      go_wp2
      refine bodyPost_ret (v := .agg #[.int .i64 z, .slice A' rows.length c']) (by simp [results, Try.results122, go_sem, *]) rfl ⟨_, _, F, rfl, (by refine Chg.isExt (F := []) ?_ (refl_ext _) (by simp); repeat (with_reducible (first | exact Chg.refl _ _ | exact Nat.le_refl _ | exact Chg.ofExt (by assumption) | refine Chg.trans0 ?_ (by assumption) | refine Chg.extS ?_ _ | refine Chg.alloc ?_ _ | refine Chg.drew ?_ | refine Chg.setCellE ?_ ?_ _ | refine le_addk ?_ _ | refine le_ext ?_ | refine le_alloc ?_ _ | refine le_setC ?_ _ _ | refine le_drew ?_ | assumption | (refine Nat.le_of_lt ?_; omega) | omega))), sRel_mk (OD.chg (E := sII) (G := [w.heap.size + 1]) ⟨_, rfl, hS⟩ (by repeat (with_reducible (first | exact Chg.refl _ _ | refine Chg.trans0 ?_ (by assumption) | refine Chg.extS ?_ _ | refine Chg.alloc ?_ _ | refine Chg.drew ?_ | refine Chg.setCell ?_ (.inl (by simp)) _))) ?_), HN.out, ?_⟩
      · intro b hb h
        have := HF.out b hb
        have := hsz.out
        simp at h
        omega
      · intro b hb
        have := HF.out b hb
        have := hsz.out
        omega
end Go.Proofs.Ytgoleefkbjjidaa

/- Relations made of rows; rows found in relations: the program's way and the reference's. -/
namespace Go.Proofs.Ytgoleefkbjjidaa
open Go.RowKit

def RelOut (o : Option Rd) (w : World) (e : Ending) (w' : World) : Prop := ∃ v0 v1 F, e = .returned (.tuple #[.agg #[v0, v1], .bool o.isSome]) ∧ (∃ y, w' = ext w y) ∧ sRel w' [v0, v1] (o.getD (0, [])) F ∧ F.Nodup ∧ ∀ b ∈ F, w.heap.size ≤ b
theorem relOut_none {w w' : World} {e : Ending} {o : Option Rd} (ho : o = none) (he : e = .returned (.tuple #[.agg #[.int .i64 0, .slice none 0 0], .bool false])) (hx : ∃ y, w' = ext w y) : RelOut o w e w' := by
  subst ho
  exact ⟨.int .i64 0, .slice none 0 0, [], he, hx, sRel_mk (F := []) ⟨_, rfl, SV.nil⟩, by simp, by simp⟩
def okRow (a : Int) (r : List Int) : Bool := decide ((r.length : Int) = a) && rowV r
theorem rowsIn_step {a : Int} {rows : List (List Int)} {k : Nat} (h : k < rows.length) : rowsIn a (rows.drop k) = (okRow a rows[k] && rowsIn a (rows.drop (k + 1))) := by
  unfold rowsIn
  rw [List.drop_eq_getElem_cons h, List.all_cons]
  rfl
theorem rowsIn_end {a : Int} {rows : List (List Int)} {k : Nat} (h : ¬ k < rows.length) : rowsIn a (rows.drop k) = true := by
  rw [List.drop_eq_nil_of_le (by omega)]; rfl
theorem newR_bad {a : Int} {rows : List (List Int)} (h : rowsIn a rows = false) : newR a rows = none := newR_none.2 (by rw [h]; simp)
theorem newR_eq {a : Int} {rows : List (List Int)} (h : rowsIn a rows = true) : newR a rows = if rowsB a (sortR rows) = true then some (a, sortR rows) else none := by
  unfold newR
  simp [h]
theorem sum_len {m : Nat} : ∀ {l : List (List Int)}, (∀ x ∈ l, x.length ≤ m) → (l.map List.length).sum ≤ m * l.length
  | [], _ => by simp
  | x :: l, h => by
    have h1 := h x (by simp)
    have h2 := sum_len (l := l) fun y hy => h y (by simp [hy])
    rw [List.map_cons, List.sum_cons, List.length_cons, Nat.mul_add]
    omega
/-- rows of a good size for the contracts on relations -/
def RelB (d : Rd) : Prop := I64 d.1 ∧ d.2.length ≤ 1000000 ∧ ∀ x ∈ d.2, x.length ≤ 1000000000
set_option maxRecDepth 100000 in
set_option maxHeartbeats 8000000 in
theorem NewRelation_any {a : Int} {A : Option Addr} {c : Nat} {rows : List (List Int)} {w : World} (ha : I64 a) (hx : rows.length ≤ 1000000000) (hcap : rows.length ≤ c) (hxl : ∀ x ∈ rows, x.length ≤ 1000000000) (h1 : RII w A rows) :
    Calls Try.prog 144 #[.int .i64 a, .slice A rows.length c] w (RelOut (newR a rows) w) := by
  obtain ⟨ha1, ha2⟩ := ha
  have Hxl := Lib.hid hxl
  clear hxl
  go_enter Try.func144, Try.ntmps144
  go_upto_region 1 with fail
  refine wp_name ?_
  intro W hW
  have xW : ∃ y, W = ext w y := by rw [hW.out]; exact (by refine Chg.isExt (F := []) ?_ (refl_ext _) (by simp); repeat (with_reducible (first | exact Chg.refl _ _ | exact Nat.le_refl _ | exact Chg.ofExt (by assumption) | refine Chg.trans0 ?_ (by assumption) | refine Chg.extS ?_ _ | refine Chg.alloc ?_ _ | refine Chg.drew ?_ | refine Chg.setCellE ?_ ?_ _ | refine le_addk ?_ _ | refine le_ext ?_ | refine le_alloc ?_ _ | refine le_setC ?_ _ _ | refine le_drew ?_ | assumption | (refine Nat.le_of_lt ?_; omega) | omega)))
  have RW : BoxAt W w.heap.size #[.int .i64 0, .slice none 0 0] := by rw [hW.out]; exact (by repeat (with_reducible (first | assumption | exact BoxAt.new _ _ _ | apply BoxAt.set2 | refine BoxAt.set2' ?_ (by omega) | apply BoxAt.setP0 | apply BoxAt.setP1 | refine BoxAt.setO ?_ (by omega) | refine BoxAt.alloc ?_ _ | refine BoxAt.drew ?_ | refine BoxAt.toExt ?_ (by assumption))))
  clear hW
  go_wp2_with fail
  go_loopw [11] (fun i wr => ∃ k : Nat, i = .int .i64 k ∧ k ≤ rows.length ∧ Hid (rowsIn a (rows.drop k) = rowsIn a rows) ∧ ∃ y, wr = ext W y) (fun i _ => rows.length - (intOf i).toNat)
  case atStart => exact ⟨0, rfl, by omega, Lib.hid (by simp), refl_ext W⟩
  case round =>
    obtain ⟨k, rfl, hk, Hj, hy⟩ := hrel
    have hyw := trans_ext xW hy
    obtain ⟨l1, a1, a1', f1⟩ := bx2 (RW.toExt hy)
    by_cases hlt : k < rows.length
    · obtain ⟨b, o, A1, c1, rfl, hb, hc, hv⟩ := (h1.toExt hyw).atV hlt
      have lx := Hxl.out rows[k] (List.getElem_mem hlt)
      have e := Hj.out
      rw [rowsIn_step hlt] at e
      obtain ⟨x, hx1⟩ : ∃ x, rows[k] = x := ⟨_, rfl⟩
      rw [hx1] at hc hv lx e
      unfold okRow at e
      obtain ⟨t1, ht1⟩ : ∃ t, decide ((x.length : Int) = a) = t := ⟨_, rfl⟩
      obtain ⟨t2, ht2⟩ : ∃ t, rowV x = t := ⟨_, rfl⟩
      have hq : ((x.length : Int) != a) = !t1 := by rw [← ht1]; by_cases q : (x.length : Int) = a <;> simp [q]
      rw [ht1, ht2] at e
      have T2 := Lib.hid ht2
      have He := Lib.hid e
      clear e ht1 ht2 hx1
      cases t1
      · have HZ := Lib.hid (newR_bad (a := a) (rows := rows) (by rw [← He.out]; rfl))
        go_wp2
        refine bodyPost_ret (v := .tuple #[.agg #[.int .i64 0, .slice none 0 0], .bool false]) (by simp [results, Try.results144, go_sem, *]) rfl (relOut_none HZ.out rfl (by refine Chg.isExt (F := []) ?_ (refl_ext _) (by simp); repeat (with_reducible (first | exact Chg.refl _ _ | exact Nat.le_refl _ | exact Chg.ofExt (by assumption) | refine Chg.trans0 ?_ (by assumption) | refine Chg.extS ?_ _ | refine Chg.alloc ?_ _ | refine Chg.drew ?_ | refine Chg.setCellE ?_ ?_ _ | refine le_addk ?_ _ | refine le_ext ?_ | refine le_alloc ?_ _ | refine le_setC ?_ _ _ | refine le_drew ?_ | assumption | (refine Nat.le_of_lt ?_; omega) | omega))))
      · cases t2
        · have HZ := Lib.hid (newR_bad (a := a) (rows := rows) (by rw [← He.out]; rfl))
          go_wp2_with (go_at_call 149; refine (AreValidValues_any lx hv).mono ?_; rintro e w1 ⟨rfl, rfl⟩; rw [T2.out])
          refine bodyPost_ret (v := .tuple #[.agg #[.int .i64 0, .slice none 0 0], .bool false]) (by simp [results, Try.results144, go_sem, *]) rfl (relOut_none HZ.out rfl (by refine Chg.isExt (F := []) ?_ (refl_ext _) (by simp); repeat (with_reducible (first | exact Chg.refl _ _ | exact Nat.le_refl _ | exact Chg.ofExt (by assumption) | refine Chg.trans0 ?_ (by assumption) | refine Chg.extS ?_ _ | refine Chg.alloc ?_ _ | refine Chg.drew ?_ | refine Chg.setCellE ?_ ?_ _ | refine le_addk ?_ _ | refine le_ext ?_ | refine le_alloc ?_ _ | refine le_setC ?_ _ _ | refine le_drew ?_ | assumption | (refine Nat.le_of_lt ?_; omega) | omega))))
        · go_wp2_with (go_at_call 149; refine (AreValidValues_any lx hv).mono ?_; rintro e w1 ⟨rfl, rfl⟩; rw [T2.out])
          exact ⟨⟨k + 1, by go_num, by omega, Lib.hid (by simpa using He.out), (by refine Chg.isExt (F := []) ?_ (refl_ext _) (by simp); repeat (with_reducible (first | exact Chg.refl _ _ | exact Nat.le_refl _ | exact Chg.ofExt (by assumption) | refine Chg.trans0 ?_ (by assumption) | refine Chg.extS ?_ _ | refine Chg.alloc ?_ _ | refine Chg.drew ?_ | refine Chg.setCellE ?_ ?_ _ | refine le_addk ?_ _ | refine le_ext ?_ | refine le_alloc ?_ _ | refine le_setC ?_ _ _ | refine le_drew ?_ | assumption | (refine Nat.le_of_lt ?_; omega) | omega)))⟩, by simp [intOf]; omega⟩
    · have HRI := Lib.hid (show rowsIn a rows = true by rw [← Hj.out, rowsIn_end hlt])
      have RB := RW.toExt hy
      have hz0 := RB.1
      clear l1 a1 a1' f1
      go_wp2_with fail
      refine (sorted_any rows.length A c rows wr (Nat.le_refl _) hx hcap Hxl.out (h1.toExt hyw)).mono ?_
      rintro e w1 ⟨v1, F1, rfl, hx1, hS1, hN1, hF1⟩
      obtain ⟨A1, c1, rfl, hc1, _, rv1⟩ := hS1.view (V := vSl 1 vI) (sSl_v sI_v)
      have hsl := sortR_length rows
      have Hsl := Lib.hid (fun x (hx : x ∈ sortR rows) => Hxl.out x (mem_sortR.1 hx))
      have HNR := Lib.hid (newR_eq HRI.out)
      obtain ⟨sr, hsr⟩ : ∃ s, sortR rows = s := ⟨_, rfl⟩
      rw [hsr] at hS1 rv1 hsl Hsl HNR hc1 ⊢
      clear hsr
      have RB1 := RB.toExt hx1
      have hs1x : sr.length ≤ 1000000000 := by omega
      go_upto_region 8 with fail
      refine wp_name ?_
      intro w2 hw2
      have hx2 : ∃ y, w2 = ext w1 y := by rw [hw2.out]; exact (by refine Chg.isExt (F := []) ?_ (refl_ext _) (by simp); repeat (with_reducible (first | exact Chg.refl _ _ | exact Nat.le_refl _ | exact Chg.ofExt (by assumption) | refine Chg.trans0 ?_ (by assumption) | refine Chg.extS ?_ _ | refine Chg.alloc ?_ _ | refine Chg.drew ?_ | refine Chg.setCellE ?_ ?_ _ | refine le_addk ?_ _ | refine le_ext ?_ | refine le_alloc ?_ _ | refine le_setC ?_ _ _ | refine le_drew ?_ | assumption | (refine Nat.le_of_lt ?_; omega) | omega)))
      have X2 : BoxAt w2 w1.heap.size #[.int .i64 a, .slice A1 sr.length c1] := by rw [hw2.out]; exact (by repeat (with_reducible (first | assumption | exact BoxAt.new _ _ _ | apply BoxAt.set2 | refine BoxAt.set2' ?_ (by omega) | apply BoxAt.setP0 | apply BoxAt.setP1 | refine BoxAt.setO ?_ (by omega) | refine BoxAt.alloc ?_ _ | refine BoxAt.drew ?_ | refine BoxAt.toExt ?_ (by assumption))))
      have R2 := RB1.toExt hx2
      have rv2 := rv1.toExt hx2
      have hz1 : w.heap.size < w1.heap.size := RB1.1
      clear hw2
      obtain ⟨l1, a1, a1', f1⟩ := bx2 X2
      obtain ⟨l2, a2, a2', f2⟩ := bx2 R2
      obtain ⟨t, ht⟩ : ∃ t, rowsB a sr = t := ⟨_, rfl⟩
      have HT := Lib.hid ht
      rw [ht] at HNR
      have HS1 := Lib.hid (hS1.toExt hx2)
      have HN1 := Lib.hid hN1
      have HF1 := Lib.hid hF1
      have hxw : ∃ y, w2 = ext w y := trans_ext hyw (trans_ext hx1 hx2)
      have hzw := size_of_ext hyw
      clear ht hS1 hN1 hF1
      cases t
      · have HZ := Lib.hid (show newR a rows = none by rw [HNR.out]; rfl)
        go_wp2_with (go_at_call 120; refine (IsValidRelation_w hs1x Hsl.out rv2).mono ?_; rintro e w3 ⟨rfl, hx3⟩; rw [HT.out]; obtain ⟨l3, a3, a3', f3⟩ := bx2 (R2.toExt hx3))
        refine bodyPost_ret (v := .tuple #[.agg #[.int .i64 0, .slice none 0 0], .bool false]) (by simp [results, Try.results144, go_sem, *]) rfl (relOut_none HZ.out rfl (by refine Chg.isExt (F := []) ?_ (refl_ext _) (by simp); repeat (with_reducible (first | exact Chg.refl _ _ | exact Nat.le_refl _ | exact Chg.ofExt (by assumption) | refine Chg.trans0 ?_ (by assumption) | refine Chg.extS ?_ _ | refine Chg.alloc ?_ _ | refine Chg.drew ?_ | refine Chg.setCellE ?_ ?_ _ | refine le_addk ?_ _ | refine le_ext ?_ | refine le_alloc ?_ _ | refine le_setC ?_ _ _ | refine le_drew ?_ | assumption | (refine Nat.le_of_lt ?_; omega) | omega))))
      · have HZ := Lib.hid (show newR a rows = some (a, sr) by rw [HNR.out]; rfl)
        go_wp2_with (go_at_call 120; refine (IsValidRelation_w hs1x Hsl.out rv2).mono ?_; rintro e w3 ⟨rfl, hx3⟩; rw [HT.out]; obtain ⟨l3, a3, a3', f3⟩ := bx2 (R2.toExt hx3); obtain ⟨l4, a4, a4', f4⟩ := bx2 (X2.toExt hx3))
        refine bodyPost_ret (v := .tuple #[.agg #[.int .i64 a, .slice A1 sr.length c1], .bool true]) (by simp [results, Try.results144, go_sem, *]) rfl ⟨_, _, F1, by rw [HZ.out]; rfl, (by refine Chg.isExt (F := []) ?_ (refl_ext _) (by simp); repeat (with_reducible (first | exact Chg.refl _ _ | exact Nat.le_refl _ | exact Chg.ofExt (by assumption) | refine Chg.trans0 ?_ (by assumption) | refine Chg.extS ?_ _ | refine Chg.alloc ?_ _ | refine Chg.drew ?_ | refine Chg.setCellE ?_ ?_ _ | refine le_addk ?_ _ | refine le_ext ?_ | refine le_alloc ?_ _ | refine le_setC ?_ _ _ | refine le_drew ?_ | assumption | (refine Nat.le_of_lt ?_; omega) | omega))), ?_, HN1.out, fun b hb => ?_⟩
        · rw [HZ.out]
          refine sRel_mk (OD.chg (E := sII) (G := [w.heap.size]) ⟨_, rfl, HS1.out.toExt hx3⟩ (by repeat (with_reducible (first | exact Chg.refl _ _ | refine Chg.trans0 ?_ (by assumption) | refine Chg.extS ?_ _ | refine Chg.alloc ?_ _ | refine Chg.drew ?_ | refine Chg.setCell ?_ (.inl (by simp)) _))) ?_)
          intro b hb h
          have := HF1.out b hb
          rw [List.mem_singleton.1 h] at this
          omega
        · have := HF1.out b hb
          omega
end Go.Proofs.Ytgoleefkbjjidaa

/- Relations made of rows by the reference; rows found in relations; relations projected: the program's way and the reference's. -/
namespace Go.Proofs.Ytgoleefkbjjidaa
open Go.RowKit

set_option maxRecDepth 100000 in
set_option maxHeartbeats 8000000 in
theorem specNewRelation_any {a : Int} {A : Option Addr} {c : Nat} {rows : List (List Int)} {w : World} (ha : I64 a) (hx : rows.length ≤ 1000000000) (hcap : rows.length ≤ c) (hxl : ∀ x ∈ rows, x.length ≤ 1000000000) (h1 : RII w A rows) :
    Calls Try.prog 76 #[.int .i64 a, .slice A rows.length c] w (RelOut (newR a rows) w) := by
  obtain ⟨ha1, ha2⟩ := ha
  have Hxl := Lib.hid hxl
  clear hxl
  go_enter Try.func76, Try.ntmps76
  go_upto_region 1 with fail
  refine wp_name ?_
  intro W hW
  have xW : ∃ y, W = ext w y := by rw [hW.out]; exact (by refine Chg.isExt (F := []) ?_ (refl_ext _) (by simp); repeat (with_reducible (first | exact Chg.refl _ _ | exact Nat.le_refl _ | exact Chg.ofExt (by assumption) | refine Chg.trans0 ?_ (by assumption) | refine Chg.extS ?_ _ | refine Chg.alloc ?_ _ | refine Chg.drew ?_ | refine Chg.setCellE ?_ ?_ _ | refine le_addk ?_ _ | refine le_ext ?_ | refine le_alloc ?_ _ | refine le_setC ?_ _ _ | refine le_drew ?_ | assumption | (refine Nat.le_of_lt ?_; omega) | omega)))
  have RW : BoxAt W w.heap.size #[.int .i64 0, .slice none 0 0] := by rw [hW.out]; exact (by repeat (with_reducible (first | assumption | exact BoxAt.new _ _ _ | apply BoxAt.set2 | refine BoxAt.set2' ?_ (by omega) | apply BoxAt.setP0 | apply BoxAt.setP1 | refine BoxAt.setO ?_ (by omega) | refine BoxAt.alloc ?_ _ | refine BoxAt.drew ?_ | refine BoxAt.toExt ?_ (by assumption))))
  clear hW
  go_wp2_with fail
  go_loopw [6] (fun i wr => ∃ k : Nat, i = .int .i64 k ∧ k ≤ rows.length ∧ Hid (rowsIn a (rows.drop k) = rowsIn a rows) ∧ ∃ y, wr = ext W y) (fun i _ => rows.length - (intOf i).toNat)
  case atStart => exact ⟨0, rfl, by omega, Lib.hid (by simp), refl_ext W⟩
  case round =>
    obtain ⟨k, rfl, hk, Hj, hy⟩ := hrel
    have hyw := trans_ext xW hy
    obtain ⟨l1, a1, a1', f1⟩ := bx2 (RW.toExt hy)
    by_cases hlt : k < rows.length
    · obtain ⟨b, o, A1, c1, rfl, hb, hc, hv⟩ := (h1.toExt hyw).atV hlt
      have lx := Hxl.out rows[k] (List.getElem_mem hlt)
      have e := Hj.out
      rw [rowsIn_step hlt] at e
      obtain ⟨x, hx1⟩ : ∃ x, rows[k] = x := ⟨_, rfl⟩
      rw [hx1] at hc hv lx e
      unfold okRow at e
      obtain ⟨t1, ht1⟩ : ∃ t, decide ((x.length : Int) = a) = t := ⟨_, rfl⟩
      obtain ⟨t2, ht2⟩ : ∃ t, rowV x = t := ⟨_, rfl⟩
      have hq : ((x.length : Int) != a) = !t1 := by rw [← ht1]; by_cases q : (x.length : Int) = a <;> simp [q]
      rw [ht1, ht2] at e
      have T2 := Lib.hid ht2
      have He := Lib.hid e
      clear e ht1 ht2 hx1
      cases t1
      · have HZ := Lib.hid (newR_bad (a := a) (rows := rows) (by rw [← He.out]; rfl))
        go_wp2
        refine bodyPost_ret (v := .tuple #[.agg #[.int .i64 0, .slice none 0 0], .bool false]) (by simp [results, Try.results76, go_sem, *]) rfl (relOut_none HZ.out rfl (by refine Chg.isExt (F := []) ?_ (refl_ext _) (by simp); repeat (with_reducible (first | exact Chg.refl _ _ | exact Nat.le_refl _ | exact Chg.ofExt (by assumption) | refine Chg.trans0 ?_ (by assumption) | refine Chg.extS ?_ _ | refine Chg.alloc ?_ _ | refine Chg.drew ?_ | refine Chg.setCellE ?_ ?_ _ | refine le_addk ?_ _ | refine le_ext ?_ | refine le_alloc ?_ _ | refine le_setC ?_ _ _ | refine le_drew ?_ | assumption | (refine Nat.le_of_lt ?_; omega) | omega))))
      · cases t2
        · have HZ := Lib.hid (newR_bad (a := a) (rows := rows) (by rw [← He.out]; rfl))
          go_wp2_with (go_at_call 121; refine (specAreValidValues_any lx hv).mono ?_; rintro e w1 ⟨rfl, rfl⟩; rw [T2.out])
          refine bodyPost_ret (v := .tuple #[.agg #[.int .i64 0, .slice none 0 0], .bool false]) (by simp [results, Try.results76, go_sem, *]) rfl (relOut_none HZ.out rfl (by refine Chg.isExt (F := []) ?_ (refl_ext _) (by simp); repeat (with_reducible (first | exact Chg.refl _ _ | exact Nat.le_refl _ | exact Chg.ofExt (by assumption) | refine Chg.trans0 ?_ (by assumption) | refine Chg.extS ?_ _ | refine Chg.alloc ?_ _ | refine Chg.drew ?_ | refine Chg.setCellE ?_ ?_ _ | refine le_addk ?_ _ | refine le_ext ?_ | refine le_alloc ?_ _ | refine le_setC ?_ _ _ | refine le_drew ?_ | assumption | (refine Nat.le_of_lt ?_; omega) | omega))))
        · go_wp2_with (go_at_call 121; refine (specAreValidValues_any lx hv).mono ?_; rintro e w1 ⟨rfl, rfl⟩; rw [T2.out])
          exact ⟨⟨k + 1, by go_num, by omega, Lib.hid (by simpa using He.out), (by refine Chg.isExt (F := []) ?_ (refl_ext _) (by simp); repeat (with_reducible (first | exact Chg.refl _ _ | exact Nat.le_refl _ | exact Chg.ofExt (by assumption) | refine Chg.trans0 ?_ (by assumption) | refine Chg.extS ?_ _ | refine Chg.alloc ?_ _ | refine Chg.drew ?_ | refine Chg.setCellE ?_ ?_ _ | refine le_addk ?_ _ | refine le_ext ?_ | refine le_alloc ?_ _ | refine le_setC ?_ _ _ | refine le_drew ?_ | assumption | (refine Nat.le_of_lt ?_; omega) | omega)))⟩, by simp [intOf]; omega⟩
    · have HRI := Lib.hid (show rowsIn a rows = true by rw [← Hj.out, rowsIn_end hlt])
      have RB := RW.toExt hy
      have hz0 := RB.1
      clear l1 a1 a1' f1
      go_wp2_with fail
      refine (l5Sort_any rows.length A c rows wr (Nat.le_refl _) hx hcap Hxl.out (h1.toExt hyw)).mono ?_
      rintro e w1 ⟨A1, c1, rfl, hc1, rv1, hx1⟩
      have hsl := sortR_length rows
      have Hsl := Lib.hid (fun x (hx : x ∈ sortR rows) => Hxl.out x (mem_sortR.1 hx))
      have HNR := Lib.hid (newR_eq HRI.out)
      obtain ⟨sr, hsr⟩ : ∃ s, sortR rows = s := ⟨_, rfl⟩
      rw [hsr] at rv1 hsl Hsl HNR hc1 ⊢
      clear hsr
      have hs1x : sr.length ≤ 1000000000 := by omega
      go_wp2_with fail
      refine (l5Copy_any (z := a) hs1x Hsl.out rv1).mono ?_
      rintro e w1' ⟨u0, u1, F1, rfl, hx1', hS1, hN1, hF1⟩
      obtain ⟨A2, c2, rfl, rfl, hS2⟩ := sRel_form hS1
      have rv2 := (vII_get (sII_v _ _ _ hS2)).2
      have RB1 := RB.toExt (trans_ext hx1 hx1')
      have hzc := size_of_ext hx1
      go_upto_region 7 with fail
      refine wp_name ?_
      intro w2 hw2
      have hx2 : ∃ y, w2 = ext w1' y := by rw [hw2.out]; exact (by refine Chg.isExt (F := []) ?_ (refl_ext _) (by simp); repeat (with_reducible (first | exact Chg.refl _ _ | exact Nat.le_refl _ | exact Chg.ofExt (by assumption) | refine Chg.trans0 ?_ (by assumption) | refine Chg.extS ?_ _ | refine Chg.alloc ?_ _ | refine Chg.drew ?_ | refine Chg.setCellE ?_ ?_ _ | refine le_addk ?_ _ | refine le_ext ?_ | refine le_alloc ?_ _ | refine le_setC ?_ _ _ | refine le_drew ?_ | assumption | (refine Nat.le_of_lt ?_; omega) | omega)))
      have X2 : BoxAt w2 w1'.heap.size #[.int .i64 a, .slice A2 sr.length c2] := by rw [hw2.out]; exact (by repeat (with_reducible (first | assumption | exact BoxAt.new _ _ _ | apply BoxAt.set2 | refine BoxAt.set2' ?_ (by omega) | apply BoxAt.setP0 | apply BoxAt.setP1 | refine BoxAt.setO ?_ (by omega) | refine BoxAt.alloc ?_ _ | refine BoxAt.drew ?_ | refine BoxAt.toExt ?_ (by assumption))))
      have R2 := RB1.toExt hx2
      have rv3 := rv2.toExt hx2
      have hz1 : w.heap.size < w1'.heap.size := RB1.1
      clear hw2
      obtain ⟨l1, a1, a1', f1⟩ := bx2 X2
      obtain ⟨l2, a2, a2', f2⟩ := bx2 R2
      obtain ⟨t, ht⟩ : ∃ t, rowsB a sr = t := ⟨_, rfl⟩
      have HT := Lib.hid ht
      rw [ht] at HNR
      have HS1 := Lib.hid (OD.toExt hS2 hx2)
      have HN1 := Lib.hid hN1
      have HF1 := Lib.hid hF1
      have hxw : ∃ y, w2 = ext w y := trans_ext hyw (trans_ext hx1 (trans_ext hx1' hx2))
      have hzw := size_of_ext hyw
      clear ht hS1 hS2 hN1 hF1
      cases t
      · have HZ := Lib.hid (show newR a rows = none by rw [HNR.out]; rfl)
        go_wp2_with (go_at_call 118; refine (specIsValidRelation_w hs1x Hsl.out rv3).mono ?_; rintro e w3 ⟨rfl, hx3⟩; rw [HT.out]; obtain ⟨l3, a3, a3', f3⟩ := bx2 (R2.toExt hx3))
        refine bodyPost_ret (v := .tuple #[.agg #[.int .i64 0, .slice none 0 0], .bool false]) (by simp [results, Try.results76, go_sem, *]) rfl (relOut_none HZ.out rfl (by refine Chg.isExt (F := []) ?_ (refl_ext _) (by simp); repeat (with_reducible (first | exact Chg.refl _ _ | exact Nat.le_refl _ | exact Chg.ofExt (by assumption) | refine Chg.trans0 ?_ (by assumption) | refine Chg.extS ?_ _ | refine Chg.alloc ?_ _ | refine Chg.drew ?_ | refine Chg.setCellE ?_ ?_ _ | refine le_addk ?_ _ | refine le_ext ?_ | refine le_alloc ?_ _ | refine le_setC ?_ _ _ | refine le_drew ?_ | assumption | (refine Nat.le_of_lt ?_; omega) | omega))))
      · have HZ := Lib.hid (show newR a rows = some (a, sr) by rw [HNR.out]; rfl)
        go_wp2_with (go_at_call 118; refine (specIsValidRelation_w hs1x Hsl.out rv3).mono ?_; rintro e w3 ⟨rfl, hx3⟩; rw [HT.out]; obtain ⟨l3, a3, a3', f3⟩ := bx2 (R2.toExt hx3); obtain ⟨l4, a4, a4', f4⟩ := bx2 (X2.toExt hx3))
        refine bodyPost_ret (v := .tuple #[.agg #[.int .i64 a, .slice A2 sr.length c2], .bool true]) (by simp [results, Try.results76, go_sem, *]) rfl ⟨_, _, F1, by rw [HZ.out]; rfl, (by refine Chg.isExt (F := []) ?_ (refl_ext _) (by simp); repeat (with_reducible (first | exact Chg.refl _ _ | exact Nat.le_refl _ | exact Chg.ofExt (by assumption) | refine Chg.trans0 ?_ (by assumption) | refine Chg.extS ?_ _ | refine Chg.alloc ?_ _ | refine Chg.drew ?_ | refine Chg.setCellE ?_ ?_ _ | refine le_addk ?_ _ | refine le_ext ?_ | refine le_alloc ?_ _ | refine le_setC ?_ _ _ | refine le_drew ?_ | assumption | (refine Nat.le_of_lt ?_; omega) | omega))), ?_, HN1.out, fun b hb => ?_⟩
        · rw [HZ.out]
          refine sRel_mk (OD.chg (E := sII) (G := [w.heap.size]) (OD.toExt HS1.out hx3) (by repeat (with_reducible (first | exact Chg.refl _ _ | refine Chg.trans0 ?_ (by assumption) | refine Chg.extS ?_ _ | refine Chg.alloc ?_ _ | refine Chg.drew ?_ | refine Chg.setCell ?_ (.inl (by simp)) _))) ?_)
          intro b hb h
          have := HF1.out b hb
          rw [List.mem_singleton.1 h] at this
          omega
        · have := HF1.out b hb
          omega
theorem conB {a : Int} {rows : List (List Int)} {row : List Int} {b t : Bool} (h : AscR rows → b = decide (row ∈ rows)) (ht : rowsB a rows = t) : (t && b) = (rowsB a rows && decide (row ∈ rows)) := by
  rw [ht]
  cases t with
  | false => rfl
  | true => rw [h (rowsB_iff.1 ht).2.2.2.2]
set_option maxHeartbeats 1000000 in
theorem ContainsRow_any {a : Int} {A A' : Option Addr} {c c' : Nat} {rows : List (List Int)} {row : List Int} {w : World} (hx : rows.length ≤ 1000000000) (hxl : ∀ x ∈ rows, x.length ≤ 1000000000) (h1 : RII w A rows) (hr : row.length ≤ 1000000000) (h2 : RI w A' row) :
    Calls Try.prog 106 #[.agg #[.int .i64 a, .slice A rows.length c], .slice A' row.length c'] w fun e w' => e = .returned (.bool (rowsB a rows && decide (row ∈ rows))) ∧ ∃ y, w' = ext w y := by
  have Hxl := Lib.hid hxl
  obtain ⟨t, ht⟩ : ∃ t, rowsB a rows = t := ⟨_, rfl⟩
  have HT := Lib.hid ht
  clear hxl ht
  go_enter Try.func106, Try.ntmps106
  go_upto_region 1 with fail
  refine wp_name ?_
  intro W hW
  have xW : ∃ y, W = ext w y := by rw [hW.out]; exact (by refine Chg.isExt (F := []) ?_ (refl_ext _) (by simp); repeat (with_reducible (first | exact Chg.refl _ _ | exact Nat.le_refl _ | exact Chg.ofExt (by assumption) | refine Chg.trans0 ?_ (by assumption) | refine Chg.extS ?_ _ | refine Chg.alloc ?_ _ | refine Chg.drew ?_ | refine Chg.setCellE ?_ ?_ _ | refine le_addk ?_ _ | refine le_ext ?_ | refine le_alloc ?_ _ | refine le_setC ?_ _ _ | refine le_drew ?_ | assumption | (refine Nat.le_of_lt ?_; omega) | omega)))
  have BW0 : BoxAt W (w.heap.size) #[.int .i64 a, .slice A rows.length c] := by rw [hW.out]; refine ⟨?_, fun j => ?_, fun j => ?_⟩ <;> go_simp
  obtain ⟨lW0, bW0, fW0⟩ := BW0
  have cW0_0 : W.cell? ⟨w.heap.size, 0, none⟩ = some (.int .i64 a) := bW0 0
  have cW0_1 : W.cell? ⟨w.heap.size, 1, none⟩ = some (.slice A rows.length c) := bW0 1
  clear hW
  have PW : BoxAt W w.heap.size #[.int .i64 a, .slice A rows.length c] := ⟨lW0, bW0, fW0⟩
  go_wp2_with fail
  refine (place_any hx Hxl.out (h1.toExt xW) hr (h2.toExt xW)).mono ?_
  rintro e w1 ⟨k, b, rfl, _, hb, _, hx1⟩
  have HB := Lib.hid (conB hb HT.out)
  obtain ⟨l1, a1, a1', f1⟩ := bx2 (PW.toExt hx1)
  clear hb lW0 bW0 fW0 cW0_0 cW0_1
  cases t
  · go_wp2_with (go_at_call 120; refine (IsValidRelation_w hx Hxl.out (h1.toExt (trans_ext xW hx1))).mono ?_; rintro e w3 ⟨rfl, hx3⟩; rw [HT.out])
    go_ret
    exact ⟨by rw [← HB.out]; rfl, (by refine Chg.isExt (F := []) ?_ (refl_ext _) (by simp); repeat (with_reducible (first | exact Chg.refl _ _ | exact Nat.le_refl _ | exact Chg.ofExt (by assumption) | refine Chg.trans0 ?_ (by assumption) | refine Chg.extS ?_ _ | refine Chg.alloc ?_ _ | refine Chg.drew ?_ | refine Chg.setCellE ?_ ?_ _ | refine le_addk ?_ _ | refine le_ext ?_ | refine le_alloc ?_ _ | refine le_setC ?_ _ _ | refine le_drew ?_ | assumption | (refine Nat.le_of_lt ?_; omega) | omega)))⟩
  · go_wp2_with (go_at_call 120; refine (IsValidRelation_w hx Hxl.out (h1.toExt (trans_ext xW hx1))).mono ?_; rintro e w3 ⟨rfl, hx3⟩; rw [HT.out])
    go_ret
    exact ⟨by rw [← HB.out]; rfl, (by refine Chg.isExt (F := []) ?_ (refl_ext _) (by simp); repeat (with_reducible (first | exact Chg.refl _ _ | exact Nat.le_refl _ | exact Chg.ofExt (by assumption) | refine Chg.trans0 ?_ (by assumption) | refine Chg.extS ?_ _ | refine Chg.alloc ?_ _ | refine Chg.drew ?_ | refine Chg.setCellE ?_ ?_ _ | refine le_addk ?_ _ | refine le_ext ?_ | refine le_alloc ?_ _ | refine le_setC ?_ _ _ | refine le_drew ?_ | assumption | (refine Nat.le_of_lt ?_; omega) | omega)))⟩
set_option maxHeartbeats 1000000 in
theorem specContainsRow_any {a : Int} {A A' : Option Addr} {c c' : Nat} {rows : List (List Int)} {row : List Int} {w : World} (hx : rows.length ≤ 1000000000) (hxl : ∀ x ∈ rows, x.length ≤ 1000000000) (h1 : RII w A rows) (hr : row.length ≤ 1000000000) (h2 : RI w A' row) :
    Calls Try.prog 105 #[.agg #[.int .i64 a, .slice A rows.length c], .slice A' row.length c'] w fun e w' => e = .returned (.bool (rowsB a rows && decide (row ∈ rows))) ∧ ∃ y, w' = ext w y := by
  have Hxl := Lib.hid hxl
  obtain ⟨t, ht⟩ : ∃ t, rowsB a rows = t := ⟨_, rfl⟩
  have HT := Lib.hid ht
  clear hxl ht
  go_enter Try.func105, Try.ntmps105
  go_upto_region 1 with fail
  refine wp_name ?_
  intro W hW
  have xW : ∃ y, W = ext w y := by rw [hW.out]; exact (by refine Chg.isExt (F := []) ?_ (refl_ext _) (by simp); repeat (with_reducible (first | exact Chg.refl _ _ | exact Nat.le_refl _ | exact Chg.ofExt (by assumption) | refine Chg.trans0 ?_ (by assumption) | refine Chg.extS ?_ _ | refine Chg.alloc ?_ _ | refine Chg.drew ?_ | refine Chg.setCellE ?_ ?_ _ | refine le_addk ?_ _ | refine le_ext ?_ | refine le_alloc ?_ _ | refine le_setC ?_ _ _ | refine le_drew ?_ | assumption | (refine Nat.le_of_lt ?_; omega) | omega)))
  have BW0 : BoxAt W (w.heap.size) #[.int .i64 a, .slice A rows.length c] := by rw [hW.out]; refine ⟨?_, fun j => ?_, fun j => ?_⟩ <;> go_simp
  obtain ⟨lW0, bW0, fW0⟩ := BW0
  have cW0_0 : W.cell? ⟨w.heap.size, 0, none⟩ = some (.int .i64 a) := bW0 0
  have cW0_1 : W.cell? ⟨w.heap.size, 1, none⟩ = some (.slice A rows.length c) := bW0 1
  clear hW
  have PW : BoxAt W w.heap.size #[.int .i64 a, .slice A rows.length c] := ⟨lW0, bW0, fW0⟩
  cases t
  · go_wp2_with (go_at_call 118; refine (specIsValidRelation_w hx Hxl.out (h1.toExt xW)).mono ?_; rintro e w3 ⟨rfl, hx3⟩; rw [HT.out])
    go_ret
    exact ⟨by rw [HT.out]; rfl, (by refine Chg.isExt (F := []) ?_ (refl_ext _) (by simp); repeat (with_reducible (first | exact Chg.refl _ _ | exact Nat.le_refl _ | exact Chg.ofExt (by assumption) | refine Chg.trans0 ?_ (by assumption) | refine Chg.extS ?_ _ | refine Chg.alloc ?_ _ | refine Chg.drew ?_ | refine Chg.setCellE ?_ ?_ _ | refine le_addk ?_ _ | refine le_ext ?_ | refine le_alloc ?_ _ | refine le_setC ?_ _ _ | refine le_drew ?_ | assumption | (refine Nat.le_of_lt ?_; omega) | omega)))⟩
  · go_wp2_with (first
      | (go_at_call 118; refine (specIsValidRelation_w hx Hxl.out (h1.toExt xW)).mono ?_; rintro e w3 ⟨rfl, hx3⟩; rw [HT.out]; obtain ⟨l3, a3, a3', f3⟩ := bx2 (PW.toExt hx3))
      | (go_at_call 65; refine (l5Place_any hx Hxl.out (h1.toExt (trans_ext xW hx3)) hr (h2.toExt (trans_ext xW hx3))).mono ?_; rintro e w1 ⟨k, b, rfl, _, hb, _, hx1⟩; have HB := Lib.hid (conB hb HT.out); clear hb))
    go_ret
    exact ⟨by rw [← HB.out]; rfl, (by refine Chg.isExt (F := []) ?_ (refl_ext _) (by simp); repeat (with_reducible (first | exact Chg.refl _ _ | exact Nat.le_refl _ | exact Chg.ofExt (by assumption) | refine Chg.trans0 ?_ (by assumption) | refine Chg.extS ?_ _ | refine Chg.alloc ?_ _ | refine Chg.drew ?_ | refine Chg.setCellE ?_ ?_ _ | refine le_addk ?_ _ | refine le_ext ?_ | refine le_alloc ?_ _ | refine le_setC ?_ _ _ | refine le_drew ?_ | assumption | (refine Nat.le_of_lt ?_; omega) | omega)))⟩
end Go.Proofs.Ytgoleefkbjjidaa

/- Relations projected: the program's way and the reference's. -/
namespace Go.Proofs.Ytgoleefkbjjidaa
open Go.RowKit

def projR (d : Rd) (cols : List Int) : Option Rd := if rowsB d.1 d.2 = true ∧ fitsC d.1 cols = true then newR (cols.length : Int) (d.2.map fun r => pickL r cols) else none
theorem proj_in {a : Int} {rows : List (List Int)} {cols : List Int} (h : rowsB a rows = true) (hf : fitsC a cols = true) : ∀ r ∈ rows, ∀ v ∈ cols, 0 ≤ v ∧ v < r.length := fun r hr v hv => by
  have h1 := ((rowsB_iff.1 h).2.2.2.1 r hr).1
  have h2 := (fitsC_iff.1 hf).2 v hv
  omega
theorem map_take_step {rows : List (List Int)} {cols : List Int} {k : Nat} (h : k < rows.length) : (rows.take (k + 1)).map (fun r => pickL r cols) = (rows.take k).map (fun r => pickL r cols) ++ [pickL rows[k] cols] := by
  rw [List.take_succ_eq_append_getElem h, List.map_append]; rfl
set_option maxRecDepth 100000 in
set_option maxHeartbeats 8000000 in
theorem Project_any {a : Int} {A A' : Option Addr} {c c' : Nat} {rows : List (List Int)} {cols : List Int} {w : World} (ha : I64 a) (hx : rows.length ≤ 1000000000) (hxl : ∀ x ∈ rows, x.length ≤ 1000000000) (h1 : RII w A rows) (hc : cols.length ≤ 1000000000) (h2 : RI w A' cols) :
    Calls Try.prog 116 #[.agg #[.int .i64 a, .slice A rows.length c], .slice A' cols.length c'] w (RelOut (projR (a, rows) cols) w) := by
  obtain ⟨ha1, ha2⟩ := ha
  have Hxl := Lib.hid hxl
  obtain ⟨t, ht⟩ : ∃ t, rowsB a rows = t := ⟨_, rfl⟩
  have HT := Lib.hid ht
  clear hxl ht
  go_enter Try.func116, Try.ntmps116
  go_upto_region 1 with fail
  refine wp_name ?_
  intro W hW
  have xW : ∃ y, W = ext w y := by rw [hW.out]; exact (by refine Chg.isExt (F := []) ?_ (refl_ext _) (by simp); repeat (with_reducible (first | exact Chg.refl _ _ | exact Nat.le_refl _ | exact Chg.ofExt (by assumption) | refine Chg.trans0 ?_ (by assumption) | refine Chg.extS ?_ _ | refine Chg.alloc ?_ _ | refine Chg.drew ?_ | refine Chg.setCellE ?_ ?_ _ | refine le_addk ?_ _ | refine le_ext ?_ | refine le_alloc ?_ _ | refine le_setC ?_ _ _ | refine le_drew ?_ | assumption | (refine Nat.le_of_lt ?_; omega) | omega)))
  have PW : BoxAt W w.heap.size #[.int .i64 a, .slice A rows.length c] := by rw [hW.out]; exact (by repeat (with_reducible (first | assumption | exact BoxAt.new _ _ _ | apply BoxAt.set2 | refine BoxAt.set2' ?_ (by omega) | apply BoxAt.setP0 | apply BoxAt.setP1 | refine BoxAt.setO ?_ (by omega) | refine BoxAt.alloc ?_ _ | refine BoxAt.drew ?_ | refine BoxAt.toExt ?_ (by assumption))))
  have RW : BoxAt W (w.heap.size + 1) #[.int .i64 0, .slice none 0 0] := by
    rw [hW.out]
    simpa using BoxAt.new (w.alloc (.cells #[.int .i64 a, .slice A rows.length c] 29)) #[.int .i64 0, .slice none 0 0] 29
  obtain ⟨lp, p0, p0', fp⟩ := bx2 PW
  obtain ⟨lr, r0, r0', fr⟩ := bx2 RW
  clear hW
  cases t with
  | false =>
    have HZ := Lib.hid (show projR (a, rows) cols = none by unfold projR; rw [HT.out]; simp)
    go_wp2_with (go_at_call 120; refine (IsValidRelation_w hx Hxl.out (h1.toExt xW)).mono ?_; rintro e w3 ⟨rfl, hx3⟩; rw [HT.out]; obtain ⟨l3, a3, a3', f3⟩ := bx2 (RW.toExt hx3))
    refine bodyPost_ret (v := .tuple #[.agg #[.int .i64 0, .slice none 0 0], .bool false]) (by simp [results, Try.results116, go_sem, *]) rfl (relOut_none HZ.out rfl (by refine Chg.isExt (F := []) ?_ (refl_ext _) (by simp); repeat (with_reducible (first | exact Chg.refl _ _ | exact Nat.le_refl _ | exact Chg.ofExt (by assumption) | refine Chg.trans0 ?_ (by assumption) | refine Chg.extS ?_ _ | refine Chg.alloc ?_ _ | refine Chg.drew ?_ | refine Chg.setCellE ?_ ?_ _ | refine le_addk ?_ _ | refine le_ext ?_ | refine le_alloc ?_ _ | refine le_setC ?_ _ _ | refine le_drew ?_ | assumption | (refine Nat.le_of_lt ?_; omega) | omega))))
  | true =>
    have hv := rowsB_iff.1 HT.out
    have ha5 := hv.1
    have ha6 := hv.2.1
    obtain ⟨t2, ht2⟩ : ∃ t, fitsC a cols = t := ⟨_, rfl⟩
    have HT2 := Lib.hid ht2
    have HV := Lib.hid hv
    clear ht2 hv
    cases t2 with
    | false =>
      have HZ := Lib.hid (show projR (a, rows) cols = none by unfold projR; rw [HT2.out]; simp)
      go_wp2_with (first
        | (go_at_call 120; refine (IsValidRelation_w hx Hxl.out (h1.toExt xW)).mono ?_; rintro e w3 ⟨rfl, hx3⟩; rw [HT.out]; obtain ⟨l3, a3, a3', f3⟩ := bx2 (RW.toExt hx3); obtain ⟨l4, a4, a4', f4⟩ := bx2 (PW.toExt hx3))
        | (go_at_call 110; refine (columnsFit_any (by omega) (by omega) hc (h2.toExt (trans_ext xW hx3))).mono ?_; rintro e w4 ⟨rfl, rfl⟩; rw [HT2.out]))
      refine bodyPost_ret (v := .tuple #[.agg #[.int .i64 0, .slice none 0 0], .bool false]) (by simp [results, Try.results116, go_sem, *]) rfl (relOut_none HZ.out rfl (by refine Chg.isExt (F := []) ?_ (refl_ext _) (by simp); repeat (with_reducible (first | exact Chg.refl _ _ | exact Nat.le_refl _ | exact Chg.ofExt (by assumption) | refine Chg.trans0 ?_ (by assumption) | refine Chg.extS ?_ _ | refine Chg.alloc ?_ _ | refine Chg.drew ?_ | refine Chg.setCellE ?_ ?_ _ | refine le_addk ?_ _ | refine le_ext ?_ | refine le_alloc ?_ _ | refine le_setC ?_ _ _ | refine le_drew ?_ | assumption | (refine Nat.le_of_lt ?_; omega) | omega))))
    | true =>
      have HP := Lib.hid (proj_in HT.out HT2.out)
      have hcl := (fitsC_iff.1 HT2.out).1
      go_wp2_with (first
        | (go_at_call 120; refine (IsValidRelation_w hx Hxl.out (h1.toExt xW)).mono ?_; rintro e w3 ⟨rfl, hx3⟩; rw [HT.out]; obtain ⟨l3, a3, a3', f3⟩ := bx2 (RW.toExt hx3); obtain ⟨l4, a4, a4', f4⟩ := bx2 (PW.toExt hx3))
        | (go_at_call 110; refine (columnsFit_any (by omega) (by omega) hc (h2.toExt (trans_ext xW hx3))).mono ?_; rintro e w4 ⟨rfl, rfl⟩; rw [HT2.out]))
      have R3 := RW.toExt hx3
      have hxw3 := trans_ext xW hx3
      have hw3s := R3.1
      clear lp p0 p0' fp lr r0 r0' fr PW RW
      go_loopw [6, 23] (fun v i wr => ∃ (k : Nat) (F : List Nat), i = .int .i64 k ∧ k ≤ rows.length ∧ SV 22 1 sRow wr v ((rows.take k).map fun r => pickL r cols) F ∧ Hid F.Nodup ∧ Hid (∀ b ∈ F, w3.heap.size ≤ b) ∧ (∃ y, wr = ext w3 y)) (fun _ i _ => rows.length - (intOf i).toNat)
      case atStart => exact ⟨0, [], rfl, by omega, SV.nil, Lib.hid (by simp), Lib.hid (by simp), refl_ext w3⟩
      case round =>
        obtain ⟨k, F, rfl, hk, hS, HN, HF, hy⟩ := hrel
        have hyw := trans_ext hxw3 hy
        obtain ⟨l5, a5, a5', f5⟩ := bx2 (R3.toExt hy)
        by_cases hlt : k < rows.length
        · obtain ⟨b, o, A1, c1, rfl, hb, hcl1, hvx⟩ := (h1.toExt hyw).atV hlt
          have hpx := HP.out rows[k] (List.getElem_mem hlt)
          have Ht := Lib.hid (map_take_step (cols := cols) hlt)
          have hlk : ((rows.take k).map fun r => pickL r cols).length + 1 ≤ 2000000000 := by simp; omega
          have hSlt := Lib.hid hS.lt
          obtain ⟨x, hx1⟩ : ∃ x, rows[k] = x := ⟨_, rfl⟩
          rw [hx1] at hcl1 hvx hpx Ht
          obtain ⟨px, hpx2⟩ : ∃ p, pickL x cols = p := ⟨_, rfl⟩
          have HPX := Lib.hid hpx2
          rw [hpx2] at Ht
          have HPI := Lib.hid hpx
          clear hx1 hpx2 hpx
          go_wp2_with (first
            | (go_at_call 107; refine (pick_any hvx hc (h2.toExt hyw) HPI.out).mono ?_; rintro e w1 ⟨v1, F1, rfl, hx1, hS1, hF1⟩; rw [HPX.out] at hS1; obtain ⟨A2, c2, rfl, _, _⟩ := hS1.form; have hN2 := nodup_more HN.out hS1.nodup hSlt.out hF1; have hz1 := size_of_ext hx1)
            | (at_builtin; refine wpList_appN (E := sRow) (d := px) (G := F1) rfl _ _ _ rfl tIIr rfl rfl rfl (by simp) ⟨_, rfl, hS1⟩ rfl (by simp [Value.oneCell']) (hS.toExt hx1) hN2 hlk (by omega) ?_; intro v' w' F' hS' hC' hN' hF'))
          refine ⟨⟨k + 1, F', by go_num, by omega, by rw [Ht.out]; exact hS', Lib.hid hN', Lib.hid (fun b hb => ?_), hC'.isExt (trans_ext hy hx1) HF.out⟩, by simp [intOf]; omega⟩
          have hzw := size_of_ext hy
          rcases hF' b hb with h | h | h
          · exact HF.out b h
          · have := hF1 b h; omega
          · omega
        · rw [List.take_of_length_le (by omega)] at hS
          have HZ := Lib.hid (show projR (a, rows) cols = newR (cols.length : Int) (rows.map fun r => pickL r cols) by unfold projR; rw [if_pos ⟨HT.out, HT2.out⟩])
          obtain ⟨pr, hpr⟩ : ∃ p, (rows.map fun r => pickL r cols) = p := ⟨_, rfl⟩
          have hprl : pr.length ≤ 1000000000 := by rw [← hpr]; simpa using hx
          have Hprx : Hid (∀ x ∈ pr, x.length ≤ 1000000000) := Lib.hid (fun x hx => by
            rw [← hpr] at hx
            obtain ⟨r, _, rfl⟩ := List.mem_map.1 hx
            rw [pickL_length]; exact hc)
          rw [hpr] at hS HZ
          obtain ⟨nr, hnr⟩ : ∃ o, newR (cols.length : Int) pr = o := ⟨_, rfl⟩
          have HNR := Lib.hid hnr
          clear hpr hnr
          obtain ⟨A3, c3, rfl, hc3, _, rv3⟩ := hS.view (V := vSl 1 vI) (sSl_v sI_v)
          go_wp2_with (go_at_call 144; refine (NewRelation_any ⟨by omega, by omega⟩ hprl hc3 Hprx.out rv3).mono ?_; rw [HNR.out]; rintro e w5 ⟨v0, v1, F5, rfl, hx5, hS5, hN5, hF5⟩; obtain ⟨A6, c6, rfl, rfl, hS6⟩ := sRel_form hS5; obtain ⟨l6, a6, a6', f6⟩ := bx2 ((R3.toExt hy).toExt hx5))
          have hzz := size_of_ext (trans_ext hy hx5)
          have hzy := size_of_ext hy
          refine bodyPost_ret (v := .tuple #[.agg #[.int .i64 (nr.getD (0, [])).1, .slice A6 (nr.getD (0, [])).2.length c6], .bool nr.isSome]) (by simp [results, Try.results116, go_sem, *]) rfl ?_
          refine ⟨_, _, F5, by rw [HZ.out, HNR.out], (by refine Chg.isExt (F := []) ?_ (refl_ext _) (by simp); repeat (with_reducible (first | exact Chg.refl _ _ | exact Nat.le_refl _ | exact Chg.ofExt (by assumption) | refine Chg.trans0 ?_ (by assumption) | refine Chg.extS ?_ _ | refine Chg.alloc ?_ _ | refine Chg.drew ?_ | refine Chg.setCellE ?_ ?_ _ | refine le_addk ?_ _ | refine le_ext ?_ | refine le_alloc ?_ _ | refine le_setC ?_ _ _ | refine le_drew ?_ | assumption | (refine Nat.le_of_lt ?_; omega) | omega))), ?_, hN5, fun b hb => ?_⟩
          · rw [HZ.out, HNR.out]
            refine OD.chg (E := sRel) (G := [w.heap.size + 1]) hS5 (by repeat (with_reducible (first | exact Chg.refl _ _ | refine Chg.trans0 ?_ (by assumption) | refine Chg.extS ?_ _ | refine Chg.alloc ?_ _ | refine Chg.drew ?_ | refine Chg.setCell ?_ (.inl (by simp)) _))) ?_
            intro b hb h
            have := hF5 b hb
            rw [List.mem_singleton.1 h] at this
            omega
          · have := hF5 b hb
            have := size_of_ext hyw
            omega
set_option maxRecDepth 100000 in
set_option maxHeartbeats 8000000 in
theorem specProject_any {a : Int} {A A' : Option Addr} {c c' : Nat} {rows : List (List Int)} {cols : List Int} {w : World} (ha : -1000000000 ≤ a ∧ a ≤ 1000000000) (hx : rows.length ≤ 1000000000) (hxl : ∀ x ∈ rows, x.length ≤ 1000000000) (h1 : RII w A rows) (hc : cols.length ≤ 1000000000) (h2 : RI w A' cols) :
    Calls Try.prog 64 #[.agg #[.int .i64 a, .slice A rows.length c], .slice A' cols.length c'] w (RelOut (projR (a, rows) cols) w) := by
  obtain ⟨ha1, ha2⟩ := ha
  have Hxl := Lib.hid hxl
  obtain ⟨t, ht⟩ : ∃ t, rowsB a rows = t := ⟨_, rfl⟩
  have HT := Lib.hid ht
  clear hxl ht
  go_enter Try.func64, Try.ntmps64
  go_upto_region 1 with fail
  refine wp_name ?_
  intro W hW
  have xW : ∃ y, W = ext w y := by rw [hW.out]; exact (by refine Chg.isExt (F := []) ?_ (refl_ext _) (by simp); repeat (with_reducible (first | exact Chg.refl _ _ | exact Nat.le_refl _ | exact Chg.ofExt (by assumption) | refine Chg.trans0 ?_ (by assumption) | refine Chg.extS ?_ _ | refine Chg.alloc ?_ _ | refine Chg.drew ?_ | refine Chg.setCellE ?_ ?_ _ | refine le_addk ?_ _ | refine le_ext ?_ | refine le_alloc ?_ _ | refine le_setC ?_ _ _ | refine le_drew ?_ | assumption | (refine Nat.le_of_lt ?_; omega) | omega)))
  have PW : BoxAt W w.heap.size #[.int .i64 a, .slice A rows.length c] := by rw [hW.out]; exact (by repeat (with_reducible (first | assumption | exact BoxAt.new _ _ _ | apply BoxAt.set2 | refine BoxAt.set2' ?_ (by omega) | apply BoxAt.setP0 | apply BoxAt.setP1 | refine BoxAt.setO ?_ (by omega) | refine BoxAt.alloc ?_ _ | refine BoxAt.drew ?_ | refine BoxAt.toExt ?_ (by assumption))))
  have RW : BoxAt W (w.heap.size + 1) #[.int .i64 0, .slice none 0 0] := by
    rw [hW.out]
    simpa using BoxAt.new (w.alloc (.cells #[.int .i64 a, .slice A rows.length c] 29)) #[.int .i64 0, .slice none 0 0] 29
  clear hW
  go_wp2_with fail
  go_loopw [6] (fun i wr => ∃ k : Nat, i = .int .i64 k ∧ k ≤ cols.length ∧ Hid (((cols.drop k).all fun c => inB c 0 (a - 1)) = cols.all fun c => inB c 0 (a - 1)) ∧ ∃ y, wr = ext W y) (fun i _ => cols.length - (intOf i).toNat)
  case atStart => exact ⟨0, rfl, by omega, Lib.hid (by simp), refl_ext W⟩
  case round =>
    obtain ⟨k, rfl, hk, Hj, hy⟩ := hrel
    have hyw := trans_ext xW hy
    obtain ⟨l1, a1, a1', f1⟩ := bx2 (RW.toExt hy)
    obtain ⟨l2, a2, a2', f2⟩ := bx2 (PW.toExt hy)
    by_cases hlt : k < cols.length
    · obtain ⟨b, o, rfl, hb, hc1⟩ := (h2.toExt hyw).atI hlt
      have e := Hj.out
      rw [allR_step hlt] at e
      obtain ⟨n, hn⟩ : ∃ n, cols[k] = n := ⟨_, rfl⟩
      rw [hn] at e hc1
      obtain ⟨t3, ht3⟩ : ∃ t, inB n 0 (a - 1) = t := ⟨_, rfl⟩
      rw [ht3] at e
      have HT3 := Lib.hid ht3
      have He := Lib.hid e
      clear e ht3 hn
      cases t3
      · have HZ := Lib.hid (show projR (a, rows) cols = none by unfold projR fitsC; rw [show (cols.all fun c => inB c 0 (a - 1)) = false by rw [← He.out]; rfl]; simp)
        go_wp2_with fail
        refine wp_region_ext (by kernel_rfl) (by kernel_rfl) ?_
        repeat (go_big_quiet_step ((go_at_call 117; exact quietSb (l1In_any _ _ _ _) HT3.out)))
        refine wpQuiet_nil ?_
        rintro _ ⟨zz, rfl⟩
        go_wp2
        refine bodyPost_ret (v := .tuple #[.agg #[.int .i64 0, .slice none 0 0], .bool false]) (by simp [results, Try.results64, go_sem, *]) rfl (relOut_none HZ.out rfl (by refine Chg.isExt (F := []) ?_ (refl_ext _) (by simp); repeat (with_reducible (first | exact Chg.refl _ _ | exact Nat.le_refl _ | exact Chg.ofExt (by assumption) | refine Chg.trans0 ?_ (by assumption) | refine Chg.extS ?_ _ | refine Chg.alloc ?_ _ | refine Chg.drew ?_ | refine Chg.setCellE ?_ ?_ _ | refine le_addk ?_ _ | refine le_ext ?_ | refine le_alloc ?_ _ | refine le_setC ?_ _ _ | refine le_drew ?_ | assumption | (refine Nat.le_of_lt ?_; omega) | omega))))
      · go_wp2_with fail
        refine wp_region_ext (by kernel_rfl) (by kernel_rfl) ?_
        repeat (go_big_quiet_step ((go_at_call 117; exact quietSb (l1In_any _ _ _ _) HT3.out)))
        refine wpQuiet_nil ?_
        rintro _ ⟨zz, rfl⟩
        go_wp2
        exact ⟨⟨k + 1, by go_num, by omega, Lib.hid (by simpa using He.out), (by refine Chg.isExt (F := []) ?_ (refl_ext _) (by simp); repeat (with_reducible (first | exact Chg.refl _ _ | exact Nat.le_refl _ | exact Chg.ofExt (by assumption) | refine Chg.trans0 ?_ (by assumption) | refine Chg.extS ?_ _ | refine Chg.alloc ?_ _ | refine Chg.drew ?_ | refine Chg.setCellE ?_ ?_ _ | refine le_addk ?_ _ | refine le_ext ?_ | refine le_alloc ?_ _ | refine le_setC ?_ _ _ | refine le_drew ?_ | assumption | (refine Nat.le_of_lt ?_; omega) | omega)))⟩, by simp [intOf]; omega⟩
    · have HAL := Lib.hid (show (cols.all fun c => inB c 0 (a - 1)) = true by rw [← Hj.out, allR_end hlt])
      cases t with
      | false =>
        have HZ := Lib.hid (show projR (a, rows) cols = none by unfold projR; rw [HT.out]; simp)
        go_wp2_with (go_at_call 118; refine (specIsValidRelation_w hx Hxl.out (h1.toExt hyw)).mono ?_; rintro e w3 ⟨rfl, hx3⟩; rw [HT.out]; obtain ⟨l3, a3, a3', f3⟩ := bx2 (RW.toExt (trans_ext hy hx3)))
        refine bodyPost_ret (v := .tuple #[.agg #[.int .i64 0, .slice none 0 0], .bool false]) (by simp [results, Try.results64, go_sem, *]) rfl (relOut_none HZ.out rfl (by refine Chg.isExt (F := []) ?_ (refl_ext _) (by simp); repeat (with_reducible (first | exact Chg.refl _ _ | exact Nat.le_refl _ | exact Chg.ofExt (by assumption) | refine Chg.trans0 ?_ (by assumption) | refine Chg.extS ?_ _ | refine Chg.alloc ?_ _ | refine Chg.drew ?_ | refine Chg.setCellE ?_ ?_ _ | refine le_addk ?_ _ | refine le_ext ?_ | refine le_alloc ?_ _ | refine le_setC ?_ _ _ | refine le_drew ?_ | assumption | (refine Nat.le_of_lt ?_; omega) | omega))))
      | true =>
        by_cases h5 : cols.length ≤ 5
        · have HF2 := Lib.hid (show fitsC a cols = true by unfold fitsC; rw [HAL.out, decide_eq_true h5]; rfl)
          have HP := Lib.hid (proj_in HT.out HF2.out)
          have HV := Lib.hid (rowsB_iff.1 HT.out)
          have hx4 : rows.length ≤ 4000 := HV.out.2.2.1
          go_wp2_with (go_at_call 118; refine (specIsValidRelation_w hx Hxl.out (h1.toExt hyw)).mono ?_; rintro e w3 ⟨rfl, hx3⟩; rw [HT.out]; obtain ⟨l3, a3, a3', f3⟩ := bx2 (RW.toExt (trans_ext hy hx3)); obtain ⟨l4, a4, a4', f4⟩ := bx2 (PW.toExt (trans_ext hy hx3)))
          have R3 := RW.toExt (trans_ext hy hx3)
          have P3 := PW.toExt (trans_ext hy hx3)
          have hxw3 := trans_ext hyw hx3
          have hw3s := R3.1
          have hS0 := SV.empty (α := List Int) (te := 22) (size := 1) (E := sRow) w3
          clear l1 a1 a1' f1 l2 a2 a2' f2 PW RW
          go_loopw [7, 8] (fun v i wr => ∃ (k : Nat) (F : List Nat), i = .int .i64 k ∧ k ≤ rows.length ∧ SV 22 1 sRow wr v ((rows.take k).map fun r => pickL r cols) F ∧ Hid F.Nodup ∧ Hid (∀ b ∈ F, w3.heap.size ≤ b) ∧ (∃ y, wr = ext w3 y)) (fun _ i _ => rows.length - (intOf i).toNat)
          case atStart => exact ⟨0, _, rfl, by omega, hS0, Lib.hid (by simp), Lib.hid (by simp), alloc_ext _ _⟩
          case round =>
            obtain ⟨k, F, rfl, hk, hS, HN, HF, hy⟩ := hrel
            have hyw := trans_ext hxw3 hy
            obtain ⟨l5, a5, a5', f5⟩ := bx2 (R3.toExt hy)
            obtain ⟨l9, a9, a9', f9⟩ := bx2 (P3.toExt hy)
            by_cases hlt : k < rows.length
            · obtain ⟨b, o, A1, c1, rfl, hb, hcl1, hvx⟩ := (h1.toExt hyw).atV hlt
              have hpx := HP.out rows[k] (List.getElem_mem hlt)
              have Ht := Lib.hid (map_take_step (cols := cols) hlt)
              have hlk : ((rows.take k).map fun r => pickL r cols).length + 1 ≤ 2000000000 := by simp; omega
              have hSlt := Lib.hid hS.lt
              obtain ⟨x, hx1⟩ : ∃ x, rows[k] = x := ⟨_, rfl⟩
              rw [hx1] at hcl1 hvx hpx Ht
              obtain ⟨px, hpx2⟩ : ∃ p, pickL x cols = p := ⟨_, rfl⟩
              have HPX := Lib.hid hpx2
              rw [hpx2] at Ht
              have HPI := Lib.hid hpx
              clear hx1 hpx2 hpx
              go_wp2_with (first
                | (go_at_call 66; refine (l5Cols_any hvx hc (h2.toExt hyw) HPI.out).mono ?_; rintro e w1 ⟨v1, F1, rfl, hx1, hS1, hF1⟩; rw [HPX.out] at hS1; obtain ⟨A2, c2, rfl, _, _⟩ := hS1.form; have hN2 := nodup_more HN.out hS1.nodup hSlt.out hF1; have hz1 := size_of_ext hx1)
                | (at_builtin; refine wpList_appN (E := sRow) (d := px) (G := F1) rfl _ _ _ rfl tIIr rfl rfl rfl (by simp) ⟨_, rfl, hS1⟩ rfl (by simp [Value.oneCell']) (hS.toExt hx1) hN2 hlk (by omega) ?_; intro v' w' F' hS' hC' hN' hF'))
              refine ⟨⟨k + 1, F', by go_num, by omega, by rw [Ht.out]; exact hS', Lib.hid hN', Lib.hid (fun b hb => ?_), hC'.isExt (trans_ext hy hx1) HF.out⟩, by simp [intOf]; omega⟩
              have hzw := size_of_ext hy
              rcases hF' b hb with h | h | h
              · exact HF.out b h
              · have := hF1 b h; omega
              · omega
            · rw [List.take_of_length_le (by omega)] at hS
              have HZ := Lib.hid (show projR (a, rows) cols = newR (cols.length : Int) (rows.map fun r => pickL r cols) by unfold projR; rw [if_pos ⟨HT.out, HF2.out⟩])
              obtain ⟨pr, hpr⟩ : ∃ p, (rows.map fun r => pickL r cols) = p := ⟨_, rfl⟩
              have hprl : pr.length ≤ 1000000000 := by rw [← hpr]; simpa using hx
              have Hprx : Hid (∀ x ∈ pr, x.length ≤ 1000000000) := Lib.hid (fun x hx => by
                rw [← hpr] at hx
                obtain ⟨r, _, rfl⟩ := List.mem_map.1 hx
                rw [pickL_length]; exact hc)
              rw [hpr] at hS HZ
              obtain ⟨nr, hnr⟩ : ∃ o, newR (cols.length : Int) pr = o := ⟨_, rfl⟩
              have HNR := Lib.hid hnr
              clear hpr hnr
              obtain ⟨A3, c3, rfl, hc3, _, rv3⟩ := hS.view (V := vSl 1 vI) (sSl_v sI_v)
              go_wp2_with (go_at_call 76; refine (specNewRelation_any ⟨by omega, by omega⟩ hprl hc3 Hprx.out rv3).mono ?_; rw [HNR.out]; rintro e w5 ⟨v0, v1, F5, rfl, hx5, hS5, hN5, hF5⟩; obtain ⟨A6, c6, rfl, rfl, hS6⟩ := sRel_form hS5; obtain ⟨l6, a6, a6', f6⟩ := bx2 ((R3.toExt hy).toExt hx5))
              have hzz := size_of_ext (trans_ext hy hx5)
              have hzy := size_of_ext hy
              have hz5 := size_of_ext hx5
              refine bodyPost_ret (v := .tuple #[.agg #[.int .i64 (nr.getD (0, [])).1, .slice A6 (nr.getD (0, [])).2.length c6], .bool nr.isSome]) (by simp [results, Try.results64, go_sem, *]) rfl ?_
              refine ⟨_, _, F5, by rw [HZ.out, HNR.out], (by refine Chg.isExt (F := []) ?_ (refl_ext _) (by simp); repeat (with_reducible (first | exact Chg.refl _ _ | exact Nat.le_refl _ | exact Chg.ofExt (by assumption) | refine Chg.trans0 ?_ (by assumption) | refine Chg.extS ?_ _ | refine Chg.alloc ?_ _ | refine Chg.drew ?_ | refine Chg.setCellE ?_ ?_ _ | refine le_addk ?_ _ | refine le_ext ?_ | refine le_alloc ?_ _ | refine le_setC ?_ _ _ | refine le_drew ?_ | assumption | (refine Nat.le_of_lt ?_; omega) | omega))), ?_, hN5, fun b hb => ?_⟩
              · rw [HZ.out, HNR.out]
                refine OD.chg (E := sRel) (G := [w.heap.size + 1]) hS5 (by repeat (with_reducible (first | exact Chg.refl _ _ | refine Chg.trans0 ?_ (by assumption) | refine Chg.extS ?_ _ | refine Chg.alloc ?_ _ | refine Chg.drew ?_ | refine Chg.setCell ?_ (.inl (by simp)) _))) ?_
                intro b hb h
                have := hF5 b hb
                rw [List.mem_singleton.1 h] at this
                omega
              · have := hF5 b hb
                have := size_of_ext hyw
                omega
        · have HZ := Lib.hid (show projR (a, rows) cols = none by unfold projR fitsC; rw [decide_eq_false h5]; simp)
          go_wp2_with (go_at_call 118; refine (specIsValidRelation_w hx Hxl.out (h1.toExt hyw)).mono ?_; rintro e w3 ⟨rfl, hx3⟩; rw [HT.out]; obtain ⟨l3, a3, a3', f3⟩ := bx2 (RW.toExt (trans_ext hy hx3)); obtain ⟨l4, a4, a4', f4⟩ := bx2 (PW.toExt (trans_ext hy hx3)))
          refine bodyPost_ret (v := .tuple #[.agg #[.int .i64 0, .slice none 0 0], .bool false]) (by simp [results, Try.results64, go_sem, *]) rfl (relOut_none HZ.out rfl (by refine Chg.isExt (F := []) ?_ (refl_ext _) (by simp); repeat (with_reducible (first | exact Chg.refl _ _ | exact Nat.le_refl _ | exact Chg.ofExt (by assumption) | refine Chg.trans0 ?_ (by assumption) | refine Chg.extS ?_ _ | refine Chg.alloc ?_ _ | refine Chg.drew ?_ | refine Chg.setCellE ?_ ?_ _ | refine le_addk ?_ _ | refine le_ext ?_ | refine le_alloc ?_ _ | refine le_setC ?_ _ _ | refine le_drew ?_ | assumption | (refine Nat.le_of_lt ?_; omega) | omega))))
end Go.Proofs.Ytgoleefkbjjidaa

/- Databases: when they are valid; tables found and put. No program in it. -/
namespace Go.Proofs.Ytgoleefkbjjidaa
open Go.RowKit

abbrev Td := ByteArray × Rd
abbrev Dbd := List Td
/-- the order of texts -/
def sLt (a b : ByteArray) : Bool := Op.bytesLess a.toList b.toList
theorem bl_irr : ∀ l : List UInt8, Op.bytesLess l l = false
  | [] => rfl
  | a :: l => by simp [Op.bytesLess, bl_irr l]
theorem bl_trans : ∀ {a b c : List UInt8}, Op.bytesLess a b = true → Op.bytesLess b c = true → Op.bytesLess a c = true
  | _, [], _, h, _ => by simp [Op.bytesLess] at h
  | _, _ :: _, [], _, k => by simp [Op.bytesLess] at k
  | [], _ :: _, _ :: _, _, _ => by simp [Op.bytesLess]
  | a :: x, b :: y, c :: z, h, k => by
    simp only [Op.bytesLess, Bool.or_eq_true, decide_eq_true_eq, Bool.and_eq_true, beq_iff_eq] at h k ⊢
    rcases h with h | ⟨rfl, h⟩
    · rcases k with k | ⟨rfl, k⟩
      · exact .inl (UInt8.lt_trans h k)
      · exact .inl h
    · rcases k with k | ⟨rfl, k⟩
      · exact .inl k
      · exact .inr ⟨rfl, bl_trans h k⟩
theorem bl_tot : ∀ {a b : List UInt8}, Op.bytesLess a b = false → Op.bytesLess b a = false → a = b
  | [], [], _, _ => rfl
  | [], _ :: _, h, _ => by simp [Op.bytesLess] at h
  | _ :: _, [], _, h => by simp [Op.bytesLess] at h
  | a :: x, b :: y, h, k => by
    simp only [Op.bytesLess, Bool.or_eq_false_iff, decide_eq_false_iff_not, Bool.and_eq_false_iff, beq_eq_false_iff_ne] at h k
    have e : a = b := by
      apply UInt8.toNat_inj.1
      have h1 := h.1
      have k1 := k.1
      rw [UInt8.lt_iff_toNat_lt] at h1 k1
      omega
    subst e
    rw [bl_tot (a := x) (b := y)]
    · rcases h.2 with h | h
      · exact absurd rfl h
      · exact h
    · rcases k.2 with h | h
      · exact absurd rfl h
      · exact h
theorem ba_toList_inj {s t : ByteArray} (e : s.toList = t.toList) : s = t := by
  rw [ByteArray.toList_eq, ByteArray.toList_eq] at e
  exact Go.WideShapes.bytes_inj e
theorem sLt_irr (a : ByteArray) : sLt a a = false := bl_irr _
theorem sLt_trans {a b c : ByteArray} (h : sLt a b = true) (k : sLt b c = true) : sLt a c = true := bl_trans h k
theorem sLt_tot {a b : ByteArray} (h : sLt a b = false) (k : sLt b a = false) : a = b := ba_toList_inj (bl_tot h k)
theorem sLt_ne {a b : ByteArray} (h : sLt a b = true) : a ≠ b := by rintro rfl; rw [sLt_irr] at h; cases h
theorem sLt_anti {a b : ByteArray} (h : sLt a b = true) : sLt b a = false := by
  cases k : sLt b a with
  | false => rfl
  | true => have := sLt_trans h k; rw [sLt_irr] at this; cases this

def zT : Td := (⟨#[]⟩, 0, [])
def tOk (d : Dbd) (i : Nat) : Bool := nameB (d.getD i zT).1 && (decide (i = 0) || sLt (d.getD (i - 1) zT).1 (d.getD i zT).1) && rowsB (d.getD i zT).2.1 (d.getD i zT).2.2 && decide (1 ≤ (d.getD i zT).2.1) && decide ((d.getD i zT).2.2.length ≤ 16)
def dbB (d : Dbd) : Bool := decide (d.length ≤ 6) && allN (tOk d) d.length 0
structure TOk (t : Td) : Prop where
  nm : nameB t.1 = true
  rel : rowsB t.2.1 t.2.2 = true
  ar : 1 ≤ t.2.1
  cnt : t.2.2.length ≤ 16
def AscT (d : Dbd) : Prop := d.Pairwise fun x y => sLt x.1 y.1 = true
theorem dbB_iff {d : Dbd} : dbB d = true ↔ d.length ≤ 6 ∧ (∀ t ∈ d, TOk t) ∧ AscT d := by
  unfold dbB
  rw [Bool.and_eq_true, decide_eq_true_eq, allN_true]
  refine and_congr_right fun _ => ?_
  constructor
  · intro h
    refine ⟨fun t ht => ?_, ?_⟩
    · obtain ⟨i, hi, rfl⟩ := List.getElem_of_mem ht
      have := h i (by omega) (by omega)
      unfold tOk at this
      rw [getDl _ _ hi] at this
      simp only [Bool.and_eq_true, decide_eq_true_eq] at this
      exact ⟨this.1.1.1.1, this.1.1.2, this.1.2, this.2⟩
    · have hn : ∀ i (h : i + 1 < d.length), sLt d[i].1 d[i + 1].1 = true := fun i hi => by
        have := h (i + 1) (by omega) (by omega)
        unfold tOk at this
        rw [getDl _ _ hi, show i + 1 - 1 = i by omega, getDl _ _ (show i < d.length by omega)] at this
        simp only [Bool.and_eq_true, Bool.or_eq_true, decide_eq_true_eq] at this
        rcases this.1.1.1.2 with k | k
        · omega
        · exact k
      unfold AscT
      rw [List.pairwise_iff_getElem]
      intro i j hi hj hij
      obtain ⟨e, rfl⟩ : ∃ e, j = i + 1 + e := ⟨j - i - 1, by omega⟩
      induction e with
      | zero => exact hn i hj
      | succ e ih => exact sLt_trans (ih (by omega) (by omega)) (hn (i + 1 + e) hj)
  · rintro ⟨h1, h2⟩ i _ hi
    rw [Nat.zero_add] at hi
    unfold tOk
    have h3 := h1 _ (List.getElem_mem hi)
    rw [getDl _ _ hi]
    simp only [Bool.and_eq_true, decide_eq_true_eq, Bool.or_eq_true]
    refine ⟨⟨⟨⟨h3.nm, ?_⟩, h3.rel⟩, h3.ar⟩, h3.cnt⟩
    rcases Nat.eq_zero_or_pos i with h4 | h4
    · exact .inl h4
    · right
      rw [getDl _ _ (show i - 1 < d.length by omega)]
      exact List.pairwise_iff_getElem.1 h2 (i - 1) i (by omega) hi (by omega)

def fndD (name : ByteArray) : Dbd → Option Rd
  | [] => none
  | t :: d => if t.1 = name then some t.2 else fndD name d
theorem fndD_step {name : ByteArray} {d : Dbd} {k : Nat} (h : k < d.length) : fndD name (d.drop k) = if d[k].1 = name then some d[k].2 else fndD name (d.drop (k + 1)) := by
  rw [List.drop_eq_getElem_cons h, fndD]
theorem fndD_end {name : ByteArray} {d : Dbd} {k : Nat} (h : ¬ k < d.length) : fndD name (d.drop k) = none := by
  rw [List.drop_eq_nil_of_le (by omega), fndD]
def lookD (d : Dbd) (name : ByteArray) : Option Rd := if dbB d = true then fndD name d else none
theorem fndD_mem {name : ByteArray} : ∀ {d : Dbd} {r : Rd}, fndD name d = some r → (name, r) ∈ d
  | [], r, h => by simp [fndD] at h
  | t :: d, r, h => by
    rw [fndD] at h
    split at h
    · rename_i e
      injection h with h
      subst e h
      simp
    · exact List.mem_cons_of_mem _ (fndD_mem h)
theorem lookD_ok {d : Dbd} {name : ByteArray} {r : Rd} (h : lookD d name = some r) : dbB d = true ∧ TOk (name, r) := by
  unfold lookD at h
  split at h
  · rename_i hv
    exact ⟨hv, (dbB_iff.1 hv).2.1 _ (fndD_mem h)⟩
  · cases h

/-- the table put into its place -/
def insT (name : ByteArray) (r : Rd) : Dbd → Dbd
  | [] => [(name, r)]
  | t :: d => if sLt t.1 name = true then t :: insT name r d else if t.1 = name then (name, r) :: d else (name, r) :: t :: d
def setD (d : Dbd) (name : ByteArray) (r : Rd) : Dbd × Bool := if dbB d = true ∧ dbB (insT name r d) = true then (insT name r d, true) else (d, false)
/-- the reference's way -/
def sIns (name : ByteArray) (r : Rd) : Bool → Dbd → Dbd
  | put, [] => if put = true then [] else [(name, r)]
  | put, t :: d => (if put = false ∧ sLt t.1 name = false then [(name, r)] else []) ++ (if t.1 = name then [] else [t]) ++ sIns name r (put || !sLt t.1 name) d
theorem sIns_put {name : ByteArray} {r : Rd} : ∀ {d : Dbd}, (∀ t ∈ d, sLt name t.1 = true) → sIns name r true d = d
  | [], _ => by simp [sIns]
  | t :: d, h => by
    rw [sIns, Bool.true_or, sIns_put (d := d) (fun u hu => h u (by simp [hu])), if_neg (by simp), if_neg (fun e => by have := h t (by simp); rw [e, sLt_irr] at this; cases this)]
    rfl
theorem sIns_eq {name : ByteArray} {r : Rd} : ∀ {d : Dbd}, AscT d → sIns name r false d = insT name r d
  | [], _ => by simp [sIns, insT]
  | t :: d, h => by
    unfold AscT at h
    rw [List.pairwise_cons] at h
    rw [sIns, insT]
    by_cases h1 : sLt t.1 name = true
    · rw [if_neg (by simp [h1]), if_pos h1, if_neg (sLt_ne h1), h1]
      rw [show (false || !true) = false from rfl, sIns_eq h.2]
      rfl
    · have h1' : sLt t.1 name = false := by simpa using h1
      rw [if_pos ⟨rfl, h1'⟩, if_neg h1, h1']
      rw [show (false || !false) = true from rfl]
      by_cases h2 : t.1 = name
      · rw [if_pos h2, if_pos h2, sIns_put (fun u hu => h2 ▸ h.1 u hu)]
        rfl
      · rw [if_neg h2, if_neg h2]
        have h3 : sLt name t.1 = true := by
          cases k : sLt name t.1 with
          | true => rfl
          | false => exact absurd (sLt_tot h1' k) h2
        rw [sIns_put (fun u hu => sLt_trans h3 (h.1 u hu))]
        rfl
end Go.Proofs.Ytgoleefkbjjidaa

/- The laws' helpers on lists of atoms: the size, a copy, equality, marks written. -/
namespace Go.Proofs.Ytgoleefkbjjidaa
open Go.RowKit

abbrev At := ByteArray × List Int
theorem conv1m (w : World) (b o cap : Nat) (n : Int) (h : w.cell? ⟨b, o, none⟩ = some (.int .u8 n)) : (convert 146 9 (.slice (some ⟨b, o, none⟩) 1 cap)).run Try.prog w = .ok (.string (bs [UInt8.ofNat n.toNat])) w :=
  run_convert_bytes_arg w _ _ Try.underlying146 Try.underlying5 b o 1 cap [n] rfl (fun i hi => by
    have : i = 0 := by omega
    subst this
    simpa using h) _ Try.underlying9
def mtx (k : Int) : ByteArray := if k ≤ 0 then ⟨#[109, 48]⟩ else bs (109 :: dec k.toNat)
set_option maxHeartbeats 1000000 in
theorem markText_any {k : Int} {w : World} (hk : k ≤ 100000000000) :
    Calls Try.prog 136 #[.int .i64 k] w fun e w' => e = .returned (.string (mtx k)) ∧ ∃ y, w' = ext w y := by
  by_cases h0 : k ≤ 0
  · rw [show mtx k = ⟨#[109, 48]⟩ by unfold mtx; rw [if_pos h0]]
    go_enter Try.func136, Try.ntmps136
    go_wp2
    go_ret
    exact ⟨rfl, refl_ext w⟩
  · rw [show mtx k = bs (109 :: dec k.toNat) by unfold mtx; rw [if_neg h0]]
    have kc := conv1m
    obtain ⟨D, hD⟩ : ∃ D, dec k.toNat = D := ⟨_, rfl⟩
    have hl : D.length ≤ 20 := by rw [← hD]; have := dec_length 19 k.toNat (by omega) (by omega); omega
    rw [hD]
    go_enter Try.func136, Try.ntmps136
    go_wp2
    go_loopw [0, 3] (fun m v wr => ∃ (n : Nat) (acc : List UInt8), m = .int .i64 n ∧ v = .string (bs acc) ∧ n ≤ 100000000000 ∧ (if n = 0 then acc else dec n ++ acc) = D ∧ acc.length ≤ 20 ∧ ∃ y, wr = ext w y) (fun m _ _ => (intOf m).toNat)
    case atStart => exact ⟨k.toNat, [], by congr 1; omega, rfl, by omega, by rw [if_neg (by omega)]; simpa using hD, by simp, refl_ext w⟩
    case round =>
      obtain ⟨n, acc, rfl, rfl, hn, hj, ha, hy⟩ := hrel
      have Hj := Lib.hid hj
      clear hj hD
      by_cases hp : 0 < n
      · have hp' : (0 : Int) < n := by omega
        have hp2 : (0 : Int) ≤ n := by omega
        have hsz : (bs acc).size ≤ 20 := by rw [bs_size]; exact ha
        have hs1 : (bs [48 + UInt8.ofNat (n % 10)]).size = 1 := bs_size _
        have HA := Lib.hid (bs_append [48 + UInt8.ofNat (n % 10)] acc)
        have hjo := Hj.out
        rw [if_neg (by omega : ¬ n = 0)] at hjo
        have hd : UInt8.ofNat (48 + n % 10) = 48 + UInt8.ofNat (n % 10) := UInt8.ofNat_add _ _
        have HE := Lib.hid (show (if n / 10 = 0 then (48 + UInt8.ofNat (n % 10)) :: acc else dec (n / 10) ++ ((48 + UInt8.ofNat (n % 10)) :: acc)) = D by
          rw [← hjo, ← hd]
          by_cases h10 : n < 10
          · rw [if_pos (by omega), dec_small h10, show n % 10 = n by omega]
            rfl
          · rw [if_neg (by omega), dec_big h10]
            simp)
        have hal : acc.length + 1 ≤ D.length := by
          rw [← hjo, List.length_append]
          have := List.length_pos_iff.2 (dec_ne n)
          omega
        clear hjo hd
        go_wp2
        exact ⟨⟨n / 10, (48 + UInt8.ofNat (n % 10)) :: acc, by congr 1, by rw [HA.out]; rfl, by omega, HE.out, by simp only [List.length_cons]; omega, (by refine Chg.isExt (F := []) ?_ (refl_ext _) (by simp); repeat (with_reducible (first | exact Chg.refl _ _ | exact Nat.le_refl _ | exact Chg.ofExt (by assumption) | refine Chg.trans0 ?_ (by assumption) | refine Chg.extS ?_ _ | refine Chg.alloc ?_ _ | refine Chg.drew ?_ | refine Chg.setCellE ?_ ?_ _ | refine le_addk ?_ _ | refine le_ext ?_ | refine le_alloc ?_ _ | refine le_setC ?_ _ _ | refine le_drew ?_ | assumption | (refine Nat.le_of_lt ?_; omega) | omega)))⟩, by simp [intOf]; omega⟩
      · have e0 : n = 0 := by omega
        subst e0
        have hsz : (bs acc).size ≤ 20 := by rw [bs_size]; exact ha
        have hs1 : (ByteArray.mk #[109]).size = 1 := rfl
        have e := Hj.out
        rw [if_pos rfl] at e
        have He := Lib.hid e
        clear e
        go_wp2
        go_ret
        exact ⟨by rw [← He.out, show (109 :: acc) = [109] ++ acc from rfl, ← bs_append]; rfl, hy⟩
abbrev vAt : VE At := vP 1 vS (vSl 1 vI)
abbrev sAt : SE At := sP 1 sS (sSl 3 1 sI)
abbrev vAts : VE (List At) := vSl 2 vAt
abbrev sAts : SE (List At) := sSl 78 2 sAt
theorem sAt_v {w : World} (c : List Value) (d : At) (F : List Nat) (h : sAt w c d F) : vAt w c d := sP_v sS_v (sSl_v sI_v) c d F h
theorem sAts_v {w : World} (c : List Value) (d : List At) (F : List Nat) (h : sAts w c d F) : vAts w c d := sSl_v sAt_v c d F h
def QAt (d : At) : Prop := d.1.size ≤ maxLen ∧ d.2.length ≤ maxLen
def QAts (d : List At) : Prop := d.length ≤ maxLen ∧ ∀ x ∈ d, QAt x
def cAt (x : At) : Nat := x.1.size + x.2.length
def BAts (d : List At) : Prop := d.length ≤ 1048576 ∧ (d.map cAt).sum ≤ 1048576
theorem BAts.each {d : List At} (h : BAts d) : ∀ x ∈ d, x.1.size ≤ 1048576 ∧ x.2.length ≤ 1048576 := fun x hx => by
  have h1 := sum_each (c := cAt) hx
  have h2 := h.2
  unfold cAt at h1 h2
  omega
def szAt (l : Int) (x : At) : Int := szA l x.1.size x.2.length
theorem szAt_sub (l : Int) (x : At) (h : 0 ≤ szAt l x) : szAt l x ≤ l - cAt x := by
  unfold szAt szA at h ⊢
  split at h
  · omega
  · rename_i h1
    rw [if_neg h1]
    have := szL_sub h
    unfold cAt
    omega
theorem szAts_le {left : Int} {xs : List At} (h : 0 ≤ szN szAt left xs) : szN szAt left xs ≤ left := szN_le (fun l x h => by have := szAt_sub l x h; omega) h
theorem szAts_small {left : Int} {xs : List At} (h : 0 ≤ szN szAt left xs) (hl : left ≤ 1048576) : BAts xs := by
  have := szN_small (c := cAt) szAt_sub h
  exact ⟨by omega, by omega⟩
theorem RV.atA {w : World} {A : Option Addr} {d : List At} {k : Nat} (h : RV 2 vAt w A d) (hk : k < d.length) : ∃ b o A' c', A = some ⟨b, o, none⟩ ∧ b < w.heap.size ∧ w.cell? ⟨b, o + k * 2, none⟩ = some (.string d[k].1) ∧ w.cell? ⟨b, o + k * 2 + 1, none⟩ = some (.slice A' d[k].2.length c') ∧ RI w A' d[k].2 := by
  obtain ⟨b, o, h1, h2, c, hc, hr, c0, c1, e, _, hs, A', c', rfl, hv⟩ := h.get hk
  simp only [vS] at hs
  subst hs e
  exact ⟨b, o, A', _, h1, h2, by simpa using hr 0 (by simp), by simpa using hr 1 (by simp), hv⟩
theorem vAts_get {w : World} {A : Option Addr} {n c : Nat} {d : List At} (h : vAts w [.slice A n c] d) : n = d.length ∧ RV 2 vAt w A d := by
  obtain ⟨A', c', e, h⟩ := h
  injection e with e
  injection e with e1 e2 e3
  subst e1
  exact ⟨e2, h⟩
set_option maxHeartbeats 1000000 in
theorem szAtomS_d {A : Option Addr} {c : Nat} {d : List At} {left : Int} {w : World} (hq : QAts d) (h : vAts w [.slice A d.length c] d) (h1 : 0 ≤ left) (h2 : left ≤ 1000000000) :
    Calls Try.prog 98 #[.slice A d.length c, .int .i64 left] w fun e w' => e = .returned (.int .i64 (szN szAt left d)) ∧ ∃ y, w' = ext w y := by
  have hn := le_maxLen hq.1
  have Hl := Lib.hid hq.2
  have h := (vAts_get h).2
  clear hq
  by_cases h0 : left - d.length < 0
  · rw [show szN szAt left d = -1 by unfold szN; rw [if_pos h0]]
    go_enter Try.func98, Try.ntmps98
    go_wp2
    go_ret
    exact ⟨rfl, refl_ext w⟩
  · rw [show szN szAt left d = szG szAt (left - d.length) d by unfold szN; rw [if_neg h0]]
    go_enter Try.func98, Try.ntmps98
    go_wp2
    go_loopw [1, 5] (fun m i wr => ∃ (k : Nat) (l : Int), m = .int .i64 l ∧ i = .int .i64 k ∧ k ≤ d.length ∧ 0 ≤ l ∧ l ≤ left ∧ szG szAt l (d.drop k) = szG szAt (left - d.length) d ∧ ∃ y, wr = ext w y) (fun _ i _ => d.length - (intOf i).toNat)
    case atStart => exact ⟨0, left - d.length, rfl, rfl, by omega, by omega, by omega, by simp, refl_ext w⟩
    case round =>
      obtain ⟨k, l, rfl, rfl, hk, hl0, hl1, hj, hy⟩ := hrel
      have Hj := Lib.hid hj
      clear hj
      by_cases hlt : k < d.length
      · obtain ⟨b, o, A', c', rfl, hb, hc, hd, hv⟩ := (h.toExt hy).atA hlt
        have hle := Hl.out d[k] (List.getElem_mem hlt)
        have hle1 := le_maxLen hle.1
        have hle2 := le_maxLen hle.2
        clear hle
        by_cases hs : 0 ≤ szAt l d[k]
        · have e := Hj.out
          rw [szG_step hlt hs] at e
          have he := szAt_sub l d[k] hs
          obtain ⟨r, hr⟩ : ∃ r, szAt l d[k] = r := ⟨_, rfl⟩
          rw [hr] at e hs he
          have He := Lib.hid e
          have Hr := Lib.hid hr
          clear e hr
          go_wp2_with (go_at_call 47; refine (szAtom_any hle1 hle2 (by omega) (by omega)).mono ?_; rintro e w' ⟨rfl, hx9⟩; rw [show szA l d[k].1.size d[k].2.length = r from Hr.out])
          exact ⟨⟨k + 1, r, rfl, by go_num, by omega, by omega, by omega, He.out, (by refine Chg.isExt (F := []) ?_ (refl_ext _) (by simp); repeat (with_reducible (first | exact Chg.refl _ _ | exact Nat.le_refl _ | exact Chg.ofExt (by assumption) | refine Chg.trans0 ?_ (by assumption) | refine Chg.extS ?_ _ | refine Chg.alloc ?_ _ | refine Chg.drew ?_ | refine Chg.setCellE ?_ ?_ _ | refine le_addk ?_ _ | refine le_ext ?_ | refine le_alloc ?_ _ | refine le_setC ?_ _ _ | refine le_drew ?_ | assumption | (refine Nat.le_of_lt ?_; omega) | omega)))⟩, by simp [intOf]; omega⟩
        · have hs : szAt l d[k] < 0 := by omega
          have e := Hj.out
          rw [szG_stop hlt hs] at e
          obtain ⟨r, hr⟩ : ∃ r, szAt l d[k] = r := ⟨_, rfl⟩
          rw [hr] at hs
          have He := Lib.hid e
          have Hr := Lib.hid hr
          clear e hr
          go_wp2_with (go_at_call 47; refine (szAtom_any hle1 hle2 (by omega) (by omega)).mono ?_; rintro e w' ⟨rfl, hx9⟩; rw [show szA l d[k].1.size d[k].2.length = r from Hr.out])
          go_ret
          exact ⟨by rw [← He.out]; rfl, (by refine Chg.isExt (F := []) ?_ (refl_ext _) (by simp); repeat (with_reducible (first | exact Chg.refl _ _ | exact Nat.le_refl _ | exact Chg.ofExt (by assumption) | refine Chg.trans0 ?_ (by assumption) | refine Chg.extS ?_ _ | refine Chg.alloc ?_ _ | refine Chg.drew ?_ | refine Chg.setCellE ?_ ?_ _ | refine le_addk ?_ _ | refine le_ext ?_ | refine le_alloc ?_ _ | refine le_setC ?_ _ _ | refine le_drew ?_ | assumption | (refine Nat.le_of_lt ?_; omega) | omega)))⟩
      · go_wp2
        go_ret
        have e := Hj.out
        rw [szG_end hlt] at e
        exact ⟨by rw [← e]; rfl, hy⟩
theorem tA : SlT Try.prog 64 78 2 40 (.agg #[.string ⟨#[]⟩, .slice none 0 0]) := ⟨Try.underlying64, by kernel_rfl, rfl, by omega⟩
theorem sAts_form {w : World} {v : Value} {d : List At} {F : List Nat} (h : sAts w [v] d F) : ∃ A c, v = .slice A d.length c := by
  obtain ⟨v', e, h⟩ := h
  injection e with e
  subst e
  obtain ⟨A, c, e, _⟩ := h.form
  exact ⟨A, c, e⟩
set_option maxHeartbeats 1000000 in
theorem toAtomS_d {A : Option Addr} {c : Nat} {d : List At} {w : World} (hb : BAts d) (h : vAts w [.slice A d.length c] d) :
    Calls Try.prog 101 #[.slice A d.length c] w fun e w' => ∃ v F, e = .returned v ∧ (∃ y, w' = ext w y) ∧ sAts w' [v] d F ∧ F.Nodup ∧ ∀ b ∈ F, w.heap.size ≤ b := by
  have hx := hb.1
  have Hl := Lib.hid hb.each
  have h1 := (vAts_get h).2
  clear hb h
  go_enter Try.func101, Try.ntmps101
  go_wp2_with (at_make; refine wpList_makeF (E := sAt) _ rfl _ _ _ rfl tA rfl rfl d (by omega) (by omega) ?_; intro w1 hS hx1 hg1)
  go_loopw [4] (fun i wr => ∃ (k : Nat) (F : List Nat), i = .int .i64 k ∧ k ≤ d.length ∧ Fill 78 2 sAt wr (.slice (some ⟨w.heap.size, 0, none⟩) d.length d.length) d.length [.string ⟨#[]⟩, .slice none 0 0] d k F ∧ F.Nodup ∧ (∀ b ∈ F, w.heap.size ≤ b) ∧ ∃ y, wr = ext w y) (fun i _ => d.length - (intOf i).toNat)
  case atStart => exact ⟨0, _, rfl, by omega, hS, by simp, by simp, hx1⟩
  case round =>
    obtain ⟨k, F, rfl, hk, hSk, hN, hF, hy⟩ := hrel
    have HF := Lib.hid hF
    have HN := Lib.hid hN
    clear hF hN
    by_cases hlt : k < d.length
    · obtain ⟨b, o, A', c', rfl, hb, hc, hd, hv⟩ := (h1.toExt hy).atA hlt
      have hle := (Hl.out d[k] (List.getElem_mem hlt)).2
      clear hS hx1
      go_wp2_with (go_at_call 49; refine (toAtom_any hle hv).mono ?_; rintro e w2 ⟨v2, F2, rfl, hx2, hS2, hF2⟩; obtain ⟨A2, c2, rfl, _⟩ := hS2.form; have HS := Lib.hid (hSk.toExt hx2); have Hc := HS.out.cell (j := k * 2) (by omega); have Hd := HS.out.cell (j := k * 2 + 1) (by omega); obtain ⟨⟨u, hu⟩, hf, hg⟩ := Hc; obtain ⟨⟨u', hu'⟩, hf', _⟩ := Hd)
      obtain ⟨h3, h4⟩ := HS.out.put2 hlt rfl (Fk := F2) (by simpa using sP_mk (F0 := []) ⟨rfl, rfl⟩ ⟨_, rfl, hS2⟩) (nodup_more HN.out hS2.nodup hSk.lt hF2)
      exact ⟨⟨k + 1, F ++ F2, by go_num, by omega, h3, nodup_more HN.out hS2.nodup hSk.lt hF2, fun b hb => by
        rcases List.mem_append.1 hb with h | h
        · exact HF.out b h
        · exact Nat.le_trans (size_of_ext hy) (hF2 b h), (h4.isExt (trans_ext hy hx2) (by simp))⟩, by simp [intOf]; omega⟩
    · go_wp2
      go_ret
      exact ⟨_, F, rfl, hy, ⟨_, rfl, hSk.done rfl (by omega)⟩, HN.out, HF.out⟩
set_option maxHeartbeats 1000000 in
theorem eqAtomS_d {A A' : Option Addr} {c c' : Nat} {d d' : List At} {w : World} (hb : BAts d) (h : vAts w [.slice A d.length c] d) (hb' : BAts d') (h' : vAts w [.slice A' d'.length c'] d') :
    Calls Try.prog 104 #[.slice A d.length c, .slice A' d'.length c'] w fun e w' => e = .returned (.bool (decide (d = d'))) ∧ ∃ y, w' = ext w y := by
  have hx := hb.1
  have hy := hb'.1
  have Hxl := Lib.hid hb.each
  have Hyl := Lib.hid hb'.each
  have h1 := (vAts_get h).2
  have h2 := (vAts_get h').2
  clear hb hb' h h'
  by_cases hl : d.length = d'.length
  · have hn : ((d.length : Int) != (d'.length : Int)) = false := by simp [hl]
    have hl2 : d'.length ≤ d.length := by omega
    have hl3 : d.length ≤ d'.length := by omega
    have HL := Lib.hid hl
    clear hl
    go_enter Try.func104, Try.ntmps104
    go_wp2
    go_loopw [5] (fun i wr => ∃ k : Nat, i = .int .i64 k ∧ k ≤ d.length ∧ d.take k = d'.take k ∧ ∃ y, wr = ext w y) (fun i _ => d.length - (intOf i).toNat)
    case atStart => exact ⟨0, rfl, by omega, by simp, refl_ext w⟩
    case round =>
      obtain ⟨k, rfl, hk, ht, hw⟩ := hrel
      have Ht := Lib.hid ht
      clear ht
      by_cases hlt : k < d.length
      · have hlt2 : k < d'.length := by omega
        obtain ⟨b, o, A1, c1, rfl, hb, hc, hd, hv⟩ := (h1.toExt hw).atA hlt
        obtain ⟨b', o', A2, c2, rfl, hb', hc', hd', hv'⟩ := (h2.toExt hw).atA hlt2
        have q1 : d[k].2.length ≤ 1000000000 := by have := (Hxl.out d[k] (List.getElem_mem hlt)).2; omega
        have q2 : d'[k].2.length ≤ 1000000000 := by have := (Hyl.out d'[k] (List.getElem_mem hlt2)).2; omega
        by_cases he : d[k] = d'[k]
        · have He := Lib.hid he
          have Hd := Lib.hid (show decide ((d[k].1, d[k].2) = (d'[k].1, d'[k].2)) = true by simp [he])
          clear he
          go_wp2
          refine wp_region_ext (by kernel_rfl) (by kernel_rfl) ?_
          repeat (go_big_quiet_step ((go_at_call 51; exact quietEb (eqAtom_any q1 hv.ext q2 hv'.ext) Hd.out)))
          refine wpQuiet_nil ?_
          rintro _ ⟨z, rfl⟩
          go_wp2
          exact ⟨⟨k + 1, by go_num, by omega, take_snoc_eq _ _ Ht.out He.out, (by refine Chg.isExt (F := []) ?_ (refl_ext _) (by simp); repeat (with_reducible (first | exact Chg.refl _ _ | exact Nat.le_refl _ | exact Chg.ofExt (by assumption) | refine Chg.trans0 ?_ (by assumption) | refine Chg.extS ?_ _ | refine Chg.alloc ?_ _ | refine Chg.drew ?_ | refine Chg.setCellE ?_ ?_ _ | refine le_addk ?_ _ | refine le_ext ?_ | refine le_alloc ?_ _ | refine le_setC ?_ _ _ | refine le_drew ?_ | assumption | (refine Nat.le_of_lt ?_; omega) | omega)))⟩, by simp [intOf]; omega⟩
        · have He := Lib.hid he
          have Hd := Lib.hid (show decide ((d[k].1, d[k].2) = (d'[k].1, d'[k].2)) = false from decide_eq_false he)
          clear he
          go_wp2
          refine wp_region_ext (by kernel_rfl) (by kernel_rfl) ?_
          repeat (go_big_quiet_step ((go_at_call 51; exact quietEb (eqAtom_any q1 hv.ext q2 hv'.ext) Hd.out)))
          refine wpQuiet_nil ?_
          rintro _ ⟨z, rfl⟩
          go_wp2
          go_ret
          exact ⟨by rw [decide_eq_false (ne_of_at hlt hlt2 He.out)]; rfl, (by refine Chg.isExt (F := []) ?_ (refl_ext _) (by simp); repeat (with_reducible (first | exact Chg.refl _ _ | exact Nat.le_refl _ | exact Chg.ofExt (by assumption) | refine Chg.trans0 ?_ (by assumption) | refine Chg.extS ?_ _ | refine Chg.alloc ?_ _ | refine Chg.drew ?_ | refine Chg.setCellE ?_ ?_ _ | refine le_addk ?_ _ | refine le_ext ?_ | refine le_alloc ?_ _ | refine le_setC ?_ _ _ | refine le_drew ?_ | assumption | (refine Nat.le_of_lt ?_; omega) | omega)))⟩
      · go_wp2
        go_ret
        exact ⟨by rw [decide_eq_true (all_eq HL.out hlt Ht.out)]; rfl, hw⟩
  · have hn : ((d.length : Int) != (d'.length : Int)) = true := by simp; omega
    go_enter Try.func104, Try.ntmps104
    go_wp2
    go_ret
    exact ⟨by rw [decide_eq_false (by rintro rfl; exact hl rfl)]; rfl, refl_ext w⟩
end Go.Proofs.Ytgoleefkbjjidaa

/- The laws' helpers on queries: the size, a copy, equality. -/
namespace Go.Proofs.Ytgoleefkbjjidaa
open Go.RowKit

abbrev Qd := Int × (List At × List Int)
abbrev vQ : VE Qd := vP 1 vI (vP 1 vAts (vSl 1 vI))
abbrev sQ : SE Qd := sP 1 sI (sP 1 sAts (sSl 3 1 sI))
theorem sQ_v {w : World} (c : List Value) (d : Qd) (F : List Nat) (h : sQ w c d F) : vQ w c d := sP_v sI_v (sP_v sAts_v (sSl_v sI_v)) c d F h
def QQ (d : Qd) : Prop := I64 d.1 ∧ QAts d.2.1 ∧ d.2.2.length ≤ maxLen
def BQ (d : Qd) : Prop := I64 d.1 ∧ BAts d.2.1 ∧ d.2.2.length ≤ 1048576
/-- bounds as they are asked for by what only reads -/
def WQ (d : Qd) : Prop := I64 d.1 ∧ (d.2.1.length ≤ 4194304 ∧ ∀ x ∈ d.2.1, x.1.size ≤ 4194304 ∧ x.2.length ≤ 4194304) ∧ d.2.2.length ≤ 4194304
theorem BQ.w {d : Qd} (h : BQ d) : WQ d := ⟨h.1, ⟨by have := h.2.1.1; omega, fun x hx => by have := h.2.1.each x hx; omega⟩, by have := h.2.2; omega⟩
def szQ (left : Int) (d : Qd) : Int := if szN szAt left d.2.1 < 0 then -1 else szL (szN szAt left d.2.1) d.2.2.length
theorem szL_neg {l : Int} {n : Nat} (h : szL l n < 0) : szL l n = -1 := by
  unfold szL at h ⊢
  split
  · rfl
  · rename_i h1; rw [if_neg h1] at h; omega
theorem szQ_parts {left : Int} {d : Qd} (h : 0 ≤ szQ left d) : 0 ≤ szN szAt left d.2.1 ∧ 0 ≤ szL (szN szAt left d.2.1) d.2.2.length ∧ szQ left d = szL (szN szAt left d.2.1) d.2.2.length := by
  unfold szQ at h ⊢
  split at h
  · omega
  · rename_i h1
    rw [if_neg h1]
    exact ⟨by omega, h, rfl⟩
theorem szQ_le {left : Int} {d : Qd} (h : 0 ≤ szQ left d) : szQ left d ≤ left := by
  obtain ⟨h1, h2, e⟩ := szQ_parts h
  rw [e]
  have := szAts_le h1
  have := szL_le h2
  omega
theorem szQ_small {left : Int} {d : Qd} (hq : I64 d.1) (h : 0 ≤ szQ left d) (hl : left ≤ 1048576) : BQ d := by
  obtain ⟨h1, h2, _⟩ := szQ_parts h
  have := szAts_le h1
  have := szL_small h2
  exact ⟨hq, szAts_small h1 hl, by omega⟩
theorem vQ_shape {w : World} {c : List Value} {d : Qd} (h : vQ w c d) : ∃ A a B b, c = [.int .i64 d.1, .slice A d.2.1.length a, .slice B d.2.2.length b] := by
  obtain ⟨c0, c1, e0, h0, h1, c2, c3, e1, h2, ⟨A2, d2, rfl, k2⟩, A3, d3, rfl, k3⟩ := h
  simp only [vI] at h1
  subst e1 h1
  exact ⟨_, _, _, _, e0⟩
theorem vQ_get {w : World} {A B : Option Addr} {c e : Nat} {n m : Nat} {z : Int} {d : Qd} (h : vQ w [.int .i64 z, .slice A n c, .slice B m e] d) : vAts w [.slice A n c] d.2.1 ∧ RI w B d.2.2 ∧ d.2.2.length ≤ e := by
  obtain ⟨c0, c1, e0, h0, h1, c2, c3, e1, h2, ⟨A2, d2, rfl, k2⟩, A3, d3, rfl, k3⟩ := h
  simp only [vI] at h1
  subst e1 h1
  simp only [List.cons_append, List.nil_append, List.cons.injEq, Value.slice.injEq, and_true] at e0
  obtain ⟨q0, ⟨q1, q2, q3⟩, q4, q5, q6⟩ := e0
  subst q1 q2 q3 q4 q5 q6
  exact ⟨⟨_, _, rfl, k2⟩, k3, by omega⟩
set_option maxHeartbeats 1000000 in
theorem szQuery_d {A B : Option Addr} {c e1 : Nat} {d : Qd} {left : Int} {w : World} (hq : QQ d) (h : vQ w [.int .i64 d.1, .slice A d.2.1.length c, .slice B d.2.2.length e1] d) (h1 : 0 ≤ left) (h2 : left ≤ 1000000000) :
    Calls Try.prog 38 #[.agg #[.int .i64 d.1, .slice A d.2.1.length c, .slice B d.2.2.length e1], .int .i64 left] w fun e w' => e = .returned (.int .i64 (szQ left d)) ∧ ∃ y, w' = ext w y := by
  obtain ⟨r1, r2, _⟩ := vQ_get h
  obtain ⟨_, q1, q2⟩ := hq
  have m2 := le_maxLen q2
  obtain ⟨l1, hl1⟩ : ∃ l, szN szAt left d.2.1 = l := ⟨_, rfl⟩
  obtain ⟨l2, hl2⟩ : ∃ l, szL l1 d.2.2.length = l := ⟨_, rfl⟩
  have H1 := Lib.hid hl1
  have H2 := Lib.hid hl2
  have e0 : szQ left d = if l1 < 0 then -1 else l2 := by unfold szQ; rw [hl1, hl2]
  have b1 : 0 ≤ l1 → l1 ≤ left := fun h => by rw [← hl1] at h ⊢; exact szAts_le h
  have n2 : l2 < 0 → l2 = -1 := fun h => by rw [← hl2] at h ⊢; exact szL_neg h
  clear h q2 hl1 hl2
  by_cases c1 : l1 < 0
  · rw [e0, if_pos c1]
    clear e0 b1 n2
    go_enter Try.func38, Try.ntmps38
    go_wp2_with (go_at_call 98; refine (szAtomS_d q1 (VD.toExt r1 (by refine Chg.isExt (F := []) ?_ (refl_ext _) (by simp); repeat (with_reducible (first | exact Chg.refl _ _ | exact Nat.le_refl _ | exact Chg.ofExt (by assumption) | refine Chg.trans0 ?_ (by assumption) | refine Chg.extS ?_ _ | refine Chg.alloc ?_ _ | refine Chg.drew ?_ | refine Chg.setCellE ?_ ?_ _ | refine le_addk ?_ _ | refine le_ext ?_ | refine le_alloc ?_ _ | refine le_setC ?_ _ _ | refine le_drew ?_ | assumption | (refine Nat.le_of_lt ?_; omega) | omega)))) h1 h2).mono ?_; rintro e w1 ⟨rfl, y1, rfl⟩; rw [H1.out])
    go_ret
    exact ⟨rfl, (by refine Chg.isExt (F := []) ?_ (refl_ext _) (by simp); repeat (with_reducible (first | exact Chg.refl _ _ | exact Nat.le_refl _ | exact Chg.ofExt (by assumption) | refine Chg.trans0 ?_ (by assumption) | refine Chg.extS ?_ _ | refine Chg.alloc ?_ _ | refine Chg.drew ?_ | refine Chg.setCellE ?_ ?_ _ | refine le_addk ?_ _ | refine le_ext ?_ | refine le_alloc ?_ _ | refine le_setC ?_ _ _ | refine le_drew ?_ | assumption | (refine Nat.le_of_lt ?_; omega) | omega)))⟩
  · have hb1 := b1 (by omega)
    rw [e0, if_neg c1]
    by_cases c2 : l2 < 0
    · have HN := Lib.hid (n2 c2)
      clear e0 b1 n2
      go_enter Try.func38, Try.ntmps38
      go_wp2_with (first
        | (go_at_call 98; refine (szAtomS_d q1 (VD.toExt r1 (by refine Chg.isExt (F := []) ?_ (refl_ext _) (by simp); repeat (with_reducible (first | exact Chg.refl _ _ | exact Nat.le_refl _ | exact Chg.ofExt (by assumption) | refine Chg.trans0 ?_ (by assumption) | refine Chg.extS ?_ _ | refine Chg.alloc ?_ _ | refine Chg.drew ?_ | refine Chg.setCellE ?_ ?_ _ | refine le_addk ?_ _ | refine le_ext ?_ | refine le_alloc ?_ _ | refine le_setC ?_ _ _ | refine le_drew ?_ | assumption | (refine Nat.le_of_lt ?_; omega) | omega)))) h1 h2).mono ?_; rintro e w1 ⟨rfl, y1, rfl⟩; rw [H1.out])
        | (go_at_call 61; refine (szIntS_any (by omega) (by omega) (by omega)).mono ?_; rintro e w1 ⟨rfl, rfl⟩; rw [H2.out]))
      go_ret
      exact ⟨by rw [HN.out]; rfl, (by refine Chg.isExt (F := []) ?_ (refl_ext _) (by simp); repeat (with_reducible (first | exact Chg.refl _ _ | exact Nat.le_refl _ | exact Chg.ofExt (by assumption) | refine Chg.trans0 ?_ (by assumption) | refine Chg.extS ?_ _ | refine Chg.alloc ?_ _ | refine Chg.drew ?_ | refine Chg.setCellE ?_ ?_ _ | refine le_addk ?_ _ | refine le_ext ?_ | refine le_alloc ?_ _ | refine le_setC ?_ _ _ | refine le_drew ?_ | assumption | (refine Nat.le_of_lt ?_; omega) | omega)))⟩
    · clear e0 b1 n2
      go_enter Try.func38, Try.ntmps38
      go_wp2_with (first
        | (go_at_call 98; refine (szAtomS_d q1 (VD.toExt r1 (by refine Chg.isExt (F := []) ?_ (refl_ext _) (by simp); repeat (with_reducible (first | exact Chg.refl _ _ | exact Nat.le_refl _ | exact Chg.ofExt (by assumption) | refine Chg.trans0 ?_ (by assumption) | refine Chg.extS ?_ _ | refine Chg.alloc ?_ _ | refine Chg.drew ?_ | refine Chg.setCellE ?_ ?_ _ | refine le_addk ?_ _ | refine le_ext ?_ | refine le_alloc ?_ _ | refine le_setC ?_ _ _ | refine le_drew ?_ | assumption | (refine Nat.le_of_lt ?_; omega) | omega)))) h1 h2).mono ?_; rintro e w1 ⟨rfl, y1, rfl⟩; rw [H1.out])
        | (go_at_call 61; refine (szIntS_any (by omega) (by omega) (by omega)).mono ?_; rintro e w1 ⟨rfl, rfl⟩; rw [H2.out]))
      go_ret
      exact ⟨rfl, (by refine Chg.isExt (F := []) ?_ (refl_ext _) (by simp); repeat (with_reducible (first | exact Chg.refl _ _ | exact Nat.le_refl _ | exact Chg.ofExt (by assumption) | refine Chg.trans0 ?_ (by assumption) | refine Chg.extS ?_ _ | refine Chg.alloc ?_ _ | refine Chg.drew ?_ | refine Chg.setCellE ?_ ?_ _ | refine le_addk ?_ _ | refine le_ext ?_ | refine le_alloc ?_ _ | refine le_setC ?_ _ _ | refine le_drew ?_ | assumption | (refine Nat.le_of_lt ?_; omega) | omega)))⟩
theorem sQ_form {w : World} {v0 v1 v2 : Value} {d : Qd} {F : List Nat} (h : sQ w [v0, v1, v2] d F) : ∃ A c B e, v0 = .int .i64 d.1 ∧ v1 = .slice A d.2.1.length c ∧ v2 = .slice B d.2.2.length e := by
  obtain ⟨c0, c1, F0, F1, e0, h0, ⟨h1, _⟩, ⟨c2, c3, F2, F3, e1, h2, ⟨u1, rfl, h3⟩, ⟨u2, rfl, h4⟩, _⟩, _⟩ := h
  subst e1 h1
  simp only [List.cons_append, List.nil_append, List.cons.injEq, and_true] at e0
  obtain ⟨rfl, rfl, rfl⟩ := e0
  obtain ⟨A, c, rfl, _⟩ := h3.form
  obtain ⟨B, e, rfl, _⟩ := h4.form
  exact ⟨A, c, B, e, rfl, rfl, rfl⟩
set_option maxHeartbeats 1000000 in
theorem toQuery_d {A B : Option Addr} {c e1 : Nat} {d : Qd} {w : World} (hb : BQ d) (h : vQ w [.int .i64 d.1, .slice A d.2.1.length c, .slice B d.2.2.length e1] d) :
    Calls Try.prog 40 #[.agg #[.int .i64 d.1, .slice A d.2.1.length c, .slice B d.2.2.length e1]] w fun e w' => ∃ v0 v1 v2 F, e = .returned (.agg #[v0, v1, v2]) ∧ (∃ y, w' = ext w y) ∧ sQ w' [v0, v1, v2] d F ∧ F.Nodup ∧ ∀ b ∈ F, w.heap.size ≤ b := by
  obtain ⟨r1, r2, _⟩ := vQ_get h
  obtain ⟨_, q1, q2⟩ := hb
  clear h
  go_enter Try.func40, Try.ntmps40
  go_upto_region 1 with fail
  refine wp_name ?_
  intro w0 hw0
  have hx0 : ∃ y, w0 = ext w y := by rw [hw0.out]; exact (by refine Chg.isExt (F := []) ?_ (refl_ext _) (by simp); repeat (with_reducible (first | exact Chg.refl _ _ | exact Nat.le_refl _ | exact Chg.ofExt (by assumption) | refine Chg.trans0 ?_ (by assumption) | refine Chg.extS ?_ _ | refine Chg.alloc ?_ _ | refine Chg.drew ?_ | refine Chg.setCellE ?_ ?_ _ | refine le_addk ?_ _ | refine le_ext ?_ | refine le_alloc ?_ _ | refine le_setC ?_ _ _ | refine le_drew ?_ | assumption | (refine Nat.le_of_lt ?_; omega) | omega)))
  have P0 : BoxAt w0 w.heap.size #[.int .i64 d.1, .slice A d.2.1.length c, .slice B d.2.2.length e1] := by rw [hw0.out]; exact (by repeat (with_reducible (first | assumption | exact BoxAt.new _ _ _ | apply BoxAt.set3 | refine BoxAt.set3' ?_ (by omega) | apply BoxAt.set30 | apply BoxAt.set31 | apply BoxAt.set32 | apply BoxAt.set2 | refine BoxAt.set2' ?_ (by omega) | apply BoxAt.setP0 | apply BoxAt.setP1 | refine BoxAt.setO ?_ (by omega) | refine BoxAt.alloc ?_ _ | refine BoxAt.drew ?_ | refine BoxAt.toExt ?_ (by assumption))))
  have R0 : BoxAt w0 (w.heap.size + 1) #[.int .i64 0, .slice none 0 0, .slice none 0 0] := by
    rw [hw0.out]
    simpa using BoxAt.new (w.alloc (.cells #[.int .i64 d.1, .slice A d.2.1.length c, .slice B d.2.2.length e1] 61)) #[.int .i64 0, .slice none 0 0, .slice none 0 0] 66
  obtain ⟨l0, k0, k0', k0'', f0⟩ := box3 P0
  obtain ⟨m0, n0, n0', n0'', g0⟩ := box3 R0
  have hz0 := size_of_ext hx0
  clear hw0
  go_wp2_with (first
    | (go_at_call 101; refine (toAtomS_d q1 (VD.toExt r1 (by refine Chg.isExt (F := []) ?_ (refl_ext _) (by simp); repeat (with_reducible (first | exact Chg.refl _ _ | exact Nat.le_refl _ | exact Chg.ofExt (by assumption) | refine Chg.trans0 ?_ (by assumption) | refine Chg.extS ?_ _ | refine Chg.alloc ?_ _ | refine Chg.drew ?_ | refine Chg.setCellE ?_ ?_ _ | refine le_addk ?_ _ | refine le_ext ?_ | refine le_alloc ?_ _ | refine le_setC ?_ _ _ | refine le_drew ?_ | assumption | (refine Nat.le_of_lt ?_; omega) | omega))))).mono ?_; rintro e w1 ⟨v1, F1, rfl, hx1, hS1, hN1, hF1⟩; obtain ⟨A1, c1, rfl⟩ := sAts_form hS1; have P1 : BoxAt w1 w.heap.size #[.int .i64 d.1, .slice A d.2.1.length c, .slice B d.2.2.length e1] := (by repeat (with_reducible (first | assumption | exact BoxAt.new _ _ _ | apply BoxAt.set3 | refine BoxAt.set3' ?_ (by omega) | apply BoxAt.set30 | apply BoxAt.set31 | apply BoxAt.set32 | apply BoxAt.set2 | refine BoxAt.set2' ?_ (by omega) | apply BoxAt.setP0 | apply BoxAt.setP1 | refine BoxAt.setO ?_ (by omega) | refine BoxAt.alloc ?_ _ | refine BoxAt.drew ?_ | refine BoxAt.toExt ?_ (by assumption)))); have R1 : BoxAt w1 (w.heap.size + 1) #[.int .i64 0, .slice none 0 0, .slice none 0 0] := (by repeat (with_reducible (first | assumption | exact BoxAt.new _ _ _ | apply BoxAt.set3 | refine BoxAt.set3' ?_ (by omega) | apply BoxAt.set30 | apply BoxAt.set31 | apply BoxAt.set32 | apply BoxAt.set2 | refine BoxAt.set2' ?_ (by omega) | apply BoxAt.setP0 | apply BoxAt.setP1 | refine BoxAt.setO ?_ (by omega) | refine BoxAt.alloc ?_ _ | refine BoxAt.drew ?_ | refine BoxAt.toExt ?_ (by assumption)))); have O1 : BoxAt w1 w0.heap.size #[.int .i64 d.1, .slice none 0 0, .slice none 0 0] := (by repeat (with_reducible (first | assumption | exact BoxAt.new _ _ _ | apply BoxAt.set3 | refine BoxAt.set3' ?_ (by omega) | apply BoxAt.set30 | apply BoxAt.set31 | apply BoxAt.set32 | apply BoxAt.set2 | refine BoxAt.set2' ?_ (by omega) | apply BoxAt.setP0 | apply BoxAt.setP1 | refine BoxAt.setO ?_ (by omega) | refine BoxAt.alloc ?_ _ | refine BoxAt.drew ?_ | refine BoxAt.toExt ?_ (by assumption)))); obtain ⟨l1, k1, k1', k1'', f1⟩ := box3 P1; obtain ⟨m1, n1, n1', n1'', g1⟩ := box3 O1; obtain ⟨o1, p1, p1', p1'', q1'⟩ := box3 R1)
    | (go_at_call 44; ((with_reducible refine (toIntS_any q2 (r2.toExt ?_)).mono ?_); (focus (exact (by refine Chg.isExt (F := []) ?_ (refl_ext _) (by simp); repeat (with_reducible (first | exact Chg.refl _ _ | exact Nat.le_refl _ | exact Chg.ofExt (by assumption) | refine Chg.trans0 ?_ (by assumption) | refine Chg.extS ?_ _ | refine Chg.alloc ?_ _ | refine Chg.drew ?_ | refine Chg.setCellE ?_ ?_ _ | refine le_addk ?_ _ | refine le_ext ?_ | refine le_alloc ?_ _ | refine le_setC ?_ _ _ | refine le_drew ?_ | assumption | (refine Nat.le_of_lt ?_; omega) | omega)))))); rintro e w2 ⟨v2, F2, rfl, hx2, hS2, hF2⟩; obtain ⟨A2, c2, rfl, _⟩ := hS2.form; have P2 : BoxAt w2 w.heap.size #[.int .i64 d.1, .slice A d.2.1.length c, .slice B d.2.2.length e1] := (by repeat (with_reducible (first | assumption | exact BoxAt.new _ _ _ | apply BoxAt.set3 | refine BoxAt.set3' ?_ (by omega) | apply BoxAt.set30 | apply BoxAt.set31 | apply BoxAt.set32 | apply BoxAt.set2 | refine BoxAt.set2' ?_ (by omega) | apply BoxAt.setP0 | apply BoxAt.setP1 | refine BoxAt.setO ?_ (by omega) | refine BoxAt.alloc ?_ _ | refine BoxAt.drew ?_ | refine BoxAt.toExt ?_ (by assumption)))); have R2 : BoxAt w2 (w.heap.size + 1) #[.int .i64 0, .slice none 0 0, .slice none 0 0] := (by repeat (with_reducible (first | assumption | exact BoxAt.new _ _ _ | apply BoxAt.set3 | refine BoxAt.set3' ?_ (by omega) | apply BoxAt.set30 | apply BoxAt.set31 | apply BoxAt.set32 | apply BoxAt.set2 | refine BoxAt.set2' ?_ (by omega) | apply BoxAt.setP0 | apply BoxAt.setP1 | refine BoxAt.setO ?_ (by omega) | refine BoxAt.alloc ?_ _ | refine BoxAt.drew ?_ | refine BoxAt.toExt ?_ (by assumption)))); have O2 : BoxAt w2 w0.heap.size #[.int .i64 d.1, .slice A1 d.2.1.length c1, .slice none 0 0] := (by repeat (with_reducible (first | assumption | exact BoxAt.new _ _ _ | apply BoxAt.set3 | refine BoxAt.set3' ?_ (by omega) | apply BoxAt.set30 | apply BoxAt.set31 | apply BoxAt.set32 | apply BoxAt.set2 | refine BoxAt.set2' ?_ (by omega) | apply BoxAt.setP0 | apply BoxAt.setP1 | refine BoxAt.setO ?_ (by omega) | refine BoxAt.alloc ?_ _ | refine BoxAt.drew ?_ | refine BoxAt.toExt ?_ (by assumption)))); obtain ⟨l2, k2, k2', k2'', f2⟩ := box3 P2; obtain ⟨m2, n2, n2', n2'', g2⟩ := box3 O2; obtain ⟨o2, p2, p2', p2'', q2'⟩ := box3 R2))
  have hz1 := size_of_ext hx1
  have hz2 := size_of_ext hx2
  simp only [World.size_alloc, World.size_setCell] at hz1 hz2 hF1 hF2
  have a1 : ∀ b ∈ F1, b < w1.heap.size := SMono.lt hS1
  refine bodyPost_ret (v := .agg #[.int .i64 d.1, .slice A1 d.2.1.length c1, .slice A2 d.2.2.length c2]) (by simp [results, Try.results40, go_sem, *]) rfl ⟨_, _, _, [] ++ (F1 ++ F2), rfl, (by refine Chg.isExt (F := []) ?_ (refl_ext _) (by simp); repeat (with_reducible (first | exact Chg.refl _ _ | exact Nat.le_refl _ | exact Chg.ofExt (by assumption) | refine Chg.trans0 ?_ (by assumption) | refine Chg.extS ?_ _ | refine Chg.alloc ?_ _ | refine Chg.drew ?_ | refine Chg.setCellE ?_ ?_ _ | refine le_addk ?_ _ | refine le_ext ?_ | refine le_alloc ?_ _ | refine le_setC ?_ _ _ | refine le_drew ?_ | assumption | (refine Nat.le_of_lt ?_; omega) | omega))), sP_mk ⟨rfl, rfl⟩ (sP_mk (OD.chg (G := [w0.heap.size, w.heap.size + 1]) hS1 (by repeat (with_reducible (first | exact Chg.refl _ _ | refine Chg.trans0 ?_ (by assumption) | refine Chg.extS ?_ _ | refine Chg.alloc ?_ _ | refine Chg.drew ?_ | refine Chg.setCell ?_ (.inl (by simp)) _))) ?_) ⟨_, rfl, hS2.chg (G := [w0.heap.size, w.heap.size + 1]) (by repeat (with_reducible (first | exact Chg.refl _ _ | refine Chg.trans0 ?_ (by assumption) | refine Chg.extS ?_ _ | refine Chg.alloc ?_ _ | refine Chg.drew ?_ | refine Chg.setCell ?_ (.inl (by simp)) _))) ?_⟩), ?_, ?_⟩
  · intro b hb h
    have := hF1 b hb
    simp at h
    omega
  · intro b hb h
    have := hF2 b hb
    simp at h
    omega
  · rw [List.nil_append]; exact nodup_more (n := w1.heap.size) hN1 hS2.nodup a1 hF2
  · intro b hb
    rcases List.mem_append.1 hb with h | h
    · simp at h
    · rcases List.mem_append.1 h with h | h
      · have := hF1 b h; omega
      · have := hF2 b h; omega
set_option maxHeartbeats 1000000 in
theorem eqQuery_d {A B A' B' : Option Addr} {c e1 c' e1' : Nat} {d d' : Qd} {w : World} (hb : BQ d) (h : vQ w [.int .i64 d.1, .slice A d.2.1.length c, .slice B d.2.2.length e1] d) (hb' : BQ d') (h' : vQ w [.int .i64 d'.1, .slice A' d'.2.1.length c', .slice B' d'.2.2.length e1'] d') :
    Calls Try.prog 42 #[.agg #[.int .i64 d.1, .slice A d.2.1.length c, .slice B d.2.2.length e1], .agg #[.int .i64 d'.1, .slice A' d'.2.1.length c', .slice B' d'.2.2.length e1']] w fun e w' => e = .returned (.bool (decide (d = d'))) ∧ ∃ y, w' = ext w y := by
  obtain ⟨r1, r2, _⟩ := vQ_get h
  obtain ⟨_, b1, b2⟩ := hb
  obtain ⟨s1, s2, _⟩ := vQ_get h'
  obtain ⟨_, p1, p2⟩ := hb'
  have m2 : d.2.2.length ≤ 1000000000 := by omega
  have n2 : d'.2.2.length ≤ 1000000000 := by omega
  have HD := Lib.hid (show decide (d = d') = (decide (d.1 = d'.1) && decide (d.2.1 = d'.2.1) && decide (d.2.2 = d'.2.2)) by
    rw [Bool.eq_iff_iff]
    simp [Prod.ext_iff, and_assoc])
  obtain ⟨t1, ht1⟩ : ∃ t, decide (d.1 = d'.1) = t := ⟨_, rfl⟩
  obtain ⟨t2, ht2⟩ : ∃ t, decide (d.2.1 = d'.2.1) = t := ⟨_, rfl⟩
  obtain ⟨t3, ht3⟩ : ∃ t, decide (d.2.2 = d'.2.2) = t := ⟨_, rfl⟩
  have D2 := Lib.hid ht2
  have D3 := Lib.hid ht3
  have hq : (d.1 != d'.1) = !t1 := by rw [← ht1]; by_cases q : d.1 = d'.1 <;> simp [q]
  have HE := Lib.hid (show decide (d = d') = (t1 && t2 && t3) by rw [HD.out, ht1, ht2, ht3])
  clear h h' ht1 ht2 ht3 HD
  cases t1 <;> cases t2 <;> cases t3
  all_goals
    go_enter Try.func42, Try.ntmps42
    go_upto_region 1 with fail
    refine wp_name ?_
    intro W hW
    have xW : ∃ y, W = ext w y := by rw [hW.out]; exact (by refine Chg.isExt (F := []) ?_ (refl_ext _) (by simp); repeat (with_reducible (first | exact Chg.refl _ _ | exact Nat.le_refl _ | exact Chg.ofExt (by assumption) | refine Chg.trans0 ?_ (by assumption) | refine Chg.extS ?_ _ | refine Chg.alloc ?_ _ | refine Chg.drew ?_ | refine Chg.setCellE ?_ ?_ _ | refine le_addk ?_ _ | refine le_ext ?_ | refine le_alloc ?_ _ | refine le_setC ?_ _ _ | refine le_drew ?_ | assumption | (refine Nat.le_of_lt ?_; omega) | omega)))
    have BW0 : BoxAt W (w.heap.size) #[.int .i64 d.1, .slice A d.2.1.length c, .slice B d.2.2.length e1] := by rw [hW.out]; refine ⟨?_, fun j => ?_, fun j => ?_⟩ <;> go_simp
    obtain ⟨lW0, bW0, fW0⟩ := BW0
    have cW0_0 : W.cell? ⟨w.heap.size, 0, none⟩ = some (.int .i64 d.1) := bW0 0
    have cW0_1 : W.cell? ⟨w.heap.size, 1, none⟩ = some (.slice A d.2.1.length c) := bW0 1
    have cW0_2 : W.cell? ⟨w.heap.size, 2, none⟩ = some (.slice B d.2.2.length e1) := bW0 2
    have BW1 : BoxAt W (w.heap.size + 1) #[.int .i64 d'.1, .slice A' d'.2.1.length c', .slice B' d'.2.2.length e1'] := by rw [hW.out]; refine ⟨?_, fun j => ?_, fun j => ?_⟩ <;> go_simp
    obtain ⟨lW1, bW1, fW1⟩ := BW1
    have cW1_0 : W.cell? ⟨w.heap.size + 1, 0, none⟩ = some (.int .i64 d'.1) := bW1 0
    have cW1_1 : W.cell? ⟨w.heap.size + 1, 1, none⟩ = some (.slice A' d'.2.1.length c') := bW1 1
    have cW1_2 : W.cell? ⟨w.heap.size + 1, 2, none⟩ = some (.slice B' d'.2.2.length e1') := bW1 2
    clear hW
    go_wp2_with (first
      | (go_at_call 104; refine (eqAtomS_d b1 (VD.toExt r1 (by refine Chg.isExt (F := []) ?_ (refl_ext _) (by simp); repeat (with_reducible (first | exact Chg.refl _ _ | exact Nat.le_refl _ | exact Chg.ofExt (by assumption) | refine Chg.trans0 ?_ (by assumption) | refine Chg.extS ?_ _ | refine Chg.alloc ?_ _ | refine Chg.drew ?_ | refine Chg.setCellE ?_ ?_ _ | refine le_addk ?_ _ | refine le_ext ?_ | refine le_alloc ?_ _ | refine le_setC ?_ _ _ | refine le_drew ?_ | assumption | (refine Nat.le_of_lt ?_; omega) | omega)))) p1 (VD.toExt s1 (by refine Chg.isExt (F := []) ?_ (refl_ext _) (by simp); repeat (with_reducible (first | exact Chg.refl _ _ | exact Nat.le_refl _ | exact Chg.ofExt (by assumption) | refine Chg.trans0 ?_ (by assumption) | refine Chg.extS ?_ _ | refine Chg.alloc ?_ _ | refine Chg.drew ?_ | refine Chg.setCellE ?_ ?_ _ | refine le_addk ?_ _ | refine le_ext ?_ | refine le_alloc ?_ _ | refine le_setC ?_ _ _ | refine le_drew ?_ | assumption | (refine Nat.le_of_lt ?_; omega) | omega))))).mono ?_; rintro e w1 ⟨rfl, hx1⟩; rw [D2.out]; have P1 := BoxAt.toExt (cs := #[.int .i64 d.1, .slice A d.2.1.length c, .slice B d.2.2.length e1]) ⟨lW0, bW0, fW0⟩ hx1; have Q1 := BoxAt.toExt (cs := #[.int .i64 d'.1, .slice A' d'.2.1.length c', .slice B' d'.2.2.length e1']) ⟨lW1, bW1, fW1⟩ hx1; obtain ⟨l1, a1, a1', a1'', f1⟩ := box3 P1; obtain ⟨o1, z1, z1', z1'', g1⟩ := box3 Q1)
      | (go_at_call 46; (with_reducible refine (eqIntS_any m2 (r2.toExt ?_) n2 (s2.toExt ?_)).mono ?_); (focus (exact (by refine Chg.isExt (F := []) ?_ (refl_ext _) (by simp); repeat (with_reducible (first | exact Chg.refl _ _ | exact Nat.le_refl _ | exact Chg.ofExt (by assumption) | refine Chg.trans0 ?_ (by assumption) | refine Chg.extS ?_ _ | refine Chg.alloc ?_ _ | refine Chg.drew ?_ | refine Chg.setCellE ?_ ?_ _ | refine le_addk ?_ _ | refine le_ext ?_ | refine le_alloc ?_ _ | refine le_setC ?_ _ _ | refine le_drew ?_ | assumption | (refine Nat.le_of_lt ?_; omega) | omega))))); (focus (exact (by refine Chg.isExt (F := []) ?_ (refl_ext _) (by simp); repeat (with_reducible (first | exact Chg.refl _ _ | exact Nat.le_refl _ | exact Chg.ofExt (by assumption) | refine Chg.trans0 ?_ (by assumption) | refine Chg.extS ?_ _ | refine Chg.alloc ?_ _ | refine Chg.drew ?_ | refine Chg.setCellE ?_ ?_ _ | refine le_addk ?_ _ | refine le_ext ?_ | refine le_alloc ?_ _ | refine le_setC ?_ _ _ | refine le_drew ?_ | assumption | (refine Nat.le_of_lt ?_; omega) | omega))))); rintro e w2 ⟨rfl, hx2⟩; rw [D3.out]))
    go_ret
    exact ⟨by rw [HE.out]; rfl, (by refine Chg.isExt (F := []) ?_ (refl_ext _) (by simp); repeat (with_reducible (first | exact Chg.refl _ _ | exact Nat.le_refl _ | exact Chg.ofExt (by assumption) | refine Chg.trans0 ?_ (by assumption) | refine Chg.extS ?_ _ | refine Chg.alloc ?_ _ | refine Chg.drew ?_ | refine Chg.setCellE ?_ ?_ _ | refine le_addk ?_ _ | refine le_ext ?_ | refine le_alloc ?_ _ | refine le_setC ?_ _ _ | refine le_drew ?_ | assumption | (refine Nat.le_of_lt ?_; omega) | omega)))⟩
end Go.Proofs.Ytgoleefkbjjidaa
