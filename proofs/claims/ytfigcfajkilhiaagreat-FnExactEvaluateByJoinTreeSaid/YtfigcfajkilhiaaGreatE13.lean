/- Contracts of functions that the statement reaches. -/
import Derived.Deep.DeepCutAuto
import Derived.Test.YtfigcfajkilhiaaGreatE12
namespace Go.Proofs.YtfigcfajkilhiaaGreat
open Go.RowKit
section
variable {P : Program} {w : World}
theorem wpList_appM {ops : Array Oper} {rest : List Oper} {o : Oper} {a : Act} {Q : Exit → Act → World → Prop} (hgd : o.guard = none) (s x : Operand) (t : TypeId)
    (ho : o.op = .call { callee := .builtin .append, args := #[s, x], argTypes := #[t, t] })
    {α : Type} {E : SE α} [SMono E] {te size bytes : Nat} {z : Value} (hT : SlT P t te size bytes z) {v : Value} {ds : List α} {F G : List Nat} {w0 : World} {cs : Array Value} {d : α} {c b0 : Nat} (hs : a.eval s = v) (hx : a.eval x = .slice (some ⟨b0, 0, none⟩) 1 c) (hw : w = w0.alloc (.cells cs te)) (hb0 : b0 = w0.heap.size)
    (hE : E w0 cs.toList d G) (hc : cs.size = size) (h1 : ∀ u ∈ cs.toList, u.oneCell' = true)
    (hS : SV te size E w0 v ds F) (hN : (F ++ G).Nodup) (hlen : ds.length + 1 ≤ 2000000000) (hby : bytes ≤ 60000)
    (h : ∀ v' w' F', SV te size E w' v' (ds ++ [d]) F' → Chg (fpOf v) w0 w' → F'.Nodup → (∀ b ∈ F', b ∈ F ∨ b ∈ G ∨ w0.heap.size ≤ b) → (∀ b ∈ fpOf v', b ∈ fpOf v ∨ w0.heap.size ≤ b) → wpList P ops Q rest (a.put o.dst v') w') : wpList P ops Q (o :: rest) a w := by
  subst hw hb0
  obtain ⟨ht, hi, hzs, hsz⟩ := hT
  obtain ⟨i, hi, hz, hs1, hs2⟩ := info_parts hi
  have hS' : SV te size E (w0.alloc (.cells cs te)) v ds F := hS.toExt (alloc_ext w0 _)
  have hE' : E (w0.alloc (.cells cs te)) cs.toList d G := OD.toExt hE (alloc_ext w0 _)
  obtain ⟨vs, F2, hown, hel, rfl⟩ := hS'
  have hB := BoxAt.new w0 cs te
  have hl : cs.toList.length = 1 * size := by simpa using hc
  have hb : (ds.length + 1) * bytes ≤ 140737488355328 := Nat.le_trans (Nat.mul_le_mul hlen hby) (by omega)
  have hnews : ∀ (j : Nat) (u : Value), cs.toList[j]? = some u → (w0.alloc (.cells cs te)).cell? ((⟨w0.heap.size, 0, none⟩ : Addr).add j) = some u := fun j u hj => by
    have e : (⟨w0.heap.size, 0, none⟩ : Addr).add j = ⟨w0.heap.size, j, none⟩ := by
      unfold Addr.add
      split
      · rename_i h; subst h; rfl
      · simp
    rw [e, hB.2.1 j]
    simpa using hj
  obtain ⟨v', w', hr, h2, h3, _, h5⟩ := run_append_own_at (P := P) (w0.alloc (.cells cs te)) 0 t o.type te i z size bytes ht hi hz hs1 hs2 hzs hsz v ds.length vs hown ⟨w0.heap.size, 0, none⟩ 1 c cs.toList hl hnews h1 (by simp only [maxLen]; omega) hb (Nat.zero_le _)
  have hcg : Chg (fpOf v) (w0.alloc (.cells cs te)) w' := Chg.ofGrown h3 fun k hk => mem_fpOf.2 hk
  have hd : ∀ b, b ∈ F2 ∨ b ∈ G → b ∉ fpOf v := by
    intro b hb hv
    rw [List.append_assoc, List.nodup_append] at hN
    exact hN.2.2 b hv b (by simpa using hb) rfl
  have hF2 : elems size E w' vs ds F2 := elems_keep hel fun b hb => hcg.block b (elems_lt hel b hb) (hd b (.inl hb))
  have hG : E w' cs.toList d G := SMono.keep hE' fun b hb => hcg.block b (SMono.lt hE' b hb) (hd b (.inr hb))
  have hnew : ∀ b ∈ fpOf v', b ∈ fpOf v ∨ w0.heap.size ≤ b := fun b hb => by
    rw [mem_fpOf] at hb
    rcases h5 with h5 | h5
    · exact .inl (by rw [mem_fpOf, ← h5, hb])
    · rw [h5] at hb; injection hb with hb; simp at hb; exact .inr (by omega)
  have hwl : wpList P ops Q rest (a.put o.dst v') w' := by
    refine h v' w' (fpOf v' ++ (F2 ++ G)) ⟨vs ++ cs.toList, F2 ++ G, by simpa using h2, elems_append hF2 (elems_one (by simpa using hc) hG), rfl⟩ (((Chg.refl _ w0).alloc _).trans hcg (fun x hx => .inl hx)) ?_ ?_ hnew
    · rw [List.append_assoc, List.nodup_append] at hN
      rw [List.nodup_append]
      refine ⟨fpOf_nodup v', hN.2.1, fun b hb b2 hb2 => ?_⟩
      rintro rfl
      rcases h5 with h5 | h5
      · exact hN.2.2 b (by rw [mem_fpOf] at hb ⊢; rw [← h5]; exact hb) b hb2 rfl
      · rw [mem_fpOf, h5] at hb
        have hlt : b < (w0.alloc (.cells cs te)).heap.size := by
          rcases List.mem_append.1 hb2 with h | h
          · exact elems_lt hel b h
          · exact SMono.lt hE' b h
        injection hb with hb
        omega
    · intro b hb
      rcases List.mem_append.1 hb with h | h
      · rcases hnew b h with k | k
        · exact .inl (by simp [k])
        · exact .inr (.inr k)
      · rcases List.mem_append.1 h with h | h
        · exact .inl (by simp [h])
        · exact .inr (.inl h)
  refine wpList_plain hgd fun K hK => ?_
  unfold Oper.wp execOp
  simp only [ho, resolve, invoke, builtin, Sem.run_bind, Sem.run_pure, Result.andThen_ok, List.map_toArray, List.map_cons, List.map_nil, hs, hx, hr]
  exact hK _ _ hwl
end
def SrtO (rows : List (List Int)) (w : World) (e : Ending) (w' : World) : Prop := ∃ (v : Value) (F : List Nat), e = .returned v ∧ (∃ y, w' = ext w y) ∧ SV 26 1 (sSl 3 1 sI) w' v (sortR rows) F ∧ F.Nodup ∧ ∀ b ∈ F, w.heap.size ≤ b
abbrev sRow : SE (List Int) := sSl 3 1 sI
def Part (W : World) : Option Addr → List (List Int) → List Nat → Prop
  | _, [], G => G = []
  | A, x :: xs, G => ∃ b o v G1 G2, A = some ⟨b, o, none⟩ ∧ b < W.heap.size ∧ W.cell? ⟨b, o, none⟩ = some v ∧ sRow W [v] x G1 ∧ Part W (some ⟨b, o + 1, none⟩) xs G2 ∧ G = G1 ++ G2
theorem part_elems {W : World} {b : Nat} (hb : b < W.heap.size) : ∀ {vs : List Value} {ds : List (List Int)} {G : List Nat} {o : Nat}, elems 1 sRow W vs ds G → (∀ j u, vs[j]? = some u → W.cell? ⟨b, o + j, none⟩ = some u) → Part W (some ⟨b, o, none⟩) ds G
  | _, [], _, _, ⟨_, h⟩, _ => h
  | _, d :: ds, _, o, ⟨c, vs', F1, F2, h1, h2, h3, h4, h5⟩, hc => by
    obtain ⟨v, rfl⟩ : ∃ v, c = [v] := by
      match c, h2 with
      | [v], _ => exact ⟨v, rfl⟩
    subst h1
    refine ⟨b, o, v, F1, F2, rfl, hb, by simpa using hc 0 v (by simp), h3, part_elems hb h4 (fun j u hu => ?_), h5⟩
    rw [Nat.add_assoc, Nat.add_comm 1 j]
    exact hc (j + 1) u (by simpa using hu)
theorem SV.part {W : World} {A : Option Addr} {n c : Nat} {ds : List (List Int)} {F : List Nat} (h : SV 26 1 sRow W (.slice A n c) ds F) : ∃ G, Part W A ds G ∧ F = fpOf (.slice A n c) ++ G := by
  obtain ⟨vs, G, h1, h2, h3⟩ := h
  refine ⟨G, ?_, h3⟩
  rcases h1.2 with ⟨h5, hn⟩ | ⟨g, cap, cur, h5, _, hg, _⟩
  · obtain rfl := List.eq_nil_of_length_eq_zero hn
    exact h2.2
  · injection h5 with e1 e2 e3
    subst e1 e2 e3
    have hlt := (h1.lt g rfl).2
    refine part_elems hlt h2 fun j u hu => ?_
    rw [Nat.zero_add, h1.cellAt j (by have := elems_length h2; have := (List.getElem?_eq_some_iff.1 hu).1; omega)]
    exact hu
theorem Part.lt {W : World} : ∀ {A : Option Addr} {ds : List (List Int)} {G : List Nat}, Part W A ds G → ∀ b ∈ G, b < W.heap.size
  | _, [], _, h, b, hb => by rw [h] at hb; simp at hb
  | _, x :: xs, _, ⟨b', o, v, G1, G2, _, _, _, h3, h4, h5⟩, b, hb => by
    subst h5
    rcases List.mem_append.1 hb with h | h
    · exact SMono.lt h3 b h
    · exact Part.lt h4 b h
theorem Part.head {W wr : World} {A : Option Addr} {x : List Int} {xs : List (List Int)} {G : List Nat} (h : Part W A (x :: xs) G) (hy : ∃ y, wr = ext W y) : ∃ b o A1 c1 G1 G2, A = some ⟨b, o, none⟩ ∧ b < wr.heap.size ∧ wr.cell? ⟨b, o, none⟩ = some (.slice A1 x.length c1) ∧ SV 3 1 sI wr (.slice A1 x.length c1) x G1 ∧ RI wr A1 x ∧ x.length ≤ c1 ∧ Part W (some ⟨b, o + 1, none⟩) xs G2 ∧ G = G1 ++ G2 ∧ (xs = [] → Part W A xs G2) := by
  obtain ⟨b, o, v, G1, G2, h1, h2, h3, ⟨v', e, h4⟩, h5, h6⟩ := h
  injection e with e
  subst e
  obtain ⟨A1, c1, rfl, hc, _, hv⟩ := h4.view sI_v
  obtain ⟨y, rfl⟩ := hy
  refine ⟨b, o, A1, c1, G1, G2, h1, lt_ext h2, by rw [cell_ext h2]; exact h3, h4.ext, hv.ext, hc, h5, h6, fun e => by subst e; exact h5⟩
theorem nd3 {F G H : List Nat} (h : (F ++ (G ++ H)).Nodup) : (F ++ G).Nodup ∧ (∀ b ∈ H, b ∉ F ∧ b ∉ G) ∧ H.Nodup := by
  rw [List.nodup_append] at h
  obtain ⟨h1, h2, h3⟩ := h
  rw [List.nodup_append] at h2
  refine ⟨List.nodup_append.2 ⟨h1, h2.1, fun a ha b hb => h3 a ha b (by simp [hb])⟩, fun b hb => ⟨fun hF => h3 b hF b (by simp [hb]) rfl, fun hG => h2.2.2 b hG b hb rfl⟩, h2.2.1⟩
theorem nd3' {F F' G H : List Nat} {n : Nat} (h : (F ++ (G ++ H)).Nodup) (h' : F'.Nodup) (hF : ∀ b ∈ F', b ∈ F ∨ b ∈ G ∨ n ≤ b) (hH : ∀ b ∈ H, b < n) : (F' ++ H).Nodup := by
  obtain ⟨_, h2, h3⟩ := nd3 h
  refine List.nodup_append.2 ⟨h', h3, fun a ha b hb => ?_⟩
  rintro rfl
  rcases hF a ha with k | k | k
  · exact (h2 a hb).1 k
  · exact (h2 a hb).2 k
  · have := hH a hb; omega
def RelI (rows : List (List Int)) (w W : World) (a b o : Value) (wr : World) : Prop := ∃ (ls rs out : List (List Int)) (Aa Ab : Option Addr) (ca cb : Nat) (F GA GB : List Nat), a = .slice Aa ls.length ca ∧ b = .slice Ab rs.length cb ∧ ls.length ≤ ca ∧ rs.length ≤ cb ∧ Part W Aa ls GA ∧ Part W Ab rs GB ∧ SV 26 1 sRow wr o out F ∧ Hid F.Nodup ∧ Hid ((F ++ (GA ++ GB)).Nodup) ∧ Hid (∀ b, b ∈ F ∨ b ∈ GA ∨ b ∈ GB → w.heap.size ≤ b) ∧ (∃ y, wr = ext W y) ∧ Hid (MS rows out ls rs) ∧ out.length + ls.length + rs.length ≤ 1000000000 ∧ Hid (∀ b ∈ fpOf o, W.heap.size ≤ b)
theorem relI_step {rows ls rs out : List (List Int)} {w W wr wr' : World} {o v' : Value} {x : List Int} {Aa Ab : Option Addr} {ca cb : Nat} {F F' G GA GB : List Nat} (hpa : Part W Aa ls GA) (hpb : Part W Ab rs GB) (hca : ls.length ≤ ca) (hcb : rs.length ≤ cb) (hy : ∃ y, wr = ext W y) (hxW : w.heap.size ≤ W.heap.size)
    (hND : (F ++ (G ++ (GA ++ GB))).Nodup) (hNW : ∀ b, b ∈ F ∨ b ∈ G ∨ b ∈ GA ∨ b ∈ GB → w.heap.size ≤ b) (hFo : ∀ b ∈ fpOf o, W.heap.size ≤ b) (hS' : SV 26 1 sRow wr' v' (out ++ [x]) F') (hC' : Chg (fpOf o) wr wr') (hN' : F'.Nodup) (hF' : ∀ b ∈ F', b ∈ F ∨ b ∈ G ∨ wr.heap.size ≤ b)
    (hf' : ∀ b ∈ fpOf v', b ∈ fpOf o ∨ wr.heap.size ≤ b) (hM : MS rows (out ++ [x]) ls rs) (hlen : out.length + ls.length + rs.length + 1 ≤ 1000000000) : RelI rows w W (.slice Aa ls.length ca) (.slice Ab rs.length cb) v' wr' := by
  have hsz := size_of_ext hy
  refine ⟨ls, rs, out ++ [x], Aa, Ab, ca, cb, F', GA, GB, rfl, rfl, hca, hcb, hpa, hpb, hS', Lib.hid hN', Lib.hid (nd3' hND hN' hF' fun b hb => ?_), Lib.hid (fun b hb => ?_), hC'.isExt hy hFo, Lib.hid hM, by simp; omega, Lib.hid (fun b hb => ?_)⟩
  · rcases List.mem_append.1 hb with k | k
    · exact Nat.lt_of_lt_of_le (hpa.lt b k) hsz
    · exact Nat.lt_of_lt_of_le (hpb.lt b k) hsz
  · rcases hb with k | k
    · rcases hF' b k with k | k | k
      · exact hNW b (.inl k)
      · exact hNW b (.inr (.inl k))
      · omega
    · exact hNW b (.inr (.inr k))
  · rcases hf' b hb with k | k
    · exact hFo b k
    · omega
theorem ndL {F G1 G2 GB : List Nat} (h : (F ++ ((G1 ++ G2) ++ GB)).Nodup) : (F ++ (G1 ++ (G2 ++ GB))).Nodup := by rwa [List.append_assoc] at h
theorem ndR {F GA H1 H2 : List Nat} (h : (F ++ (GA ++ (H1 ++ H2))).Nodup) : (F ++ (H1 ++ (GA ++ H2))).Nodup := (List.Perm.append_left F (List.perm_append_comm_assoc GA H1 H2)).nodup_iff.1 h
theorem ndB {F G1 G2 H1 H2 : List Nat} (h : (F ++ ((G1 ++ G2) ++ (H1 ++ H2))).Nodup) : (F ++ (G1 ++ (G2 ++ H2))).Nodup := by
  have h1 := ndL h
  refine List.Sublist.nodup (List.Sublist.append_left (List.Sublist.append_left (List.Sublist.append_left (List.sublist_append_right _ _) _) _) _) h1
def CutS (la lb : List (List Int)) (w : World) (a b : Value) (W : World) : Prop := ∃ (Fa Fb : List Nat), SV 26 1 sRow W a la Fa ∧ SV 26 1 sRow W b lb Fb ∧ (Fa ++ Fb).Nodup ∧ (∀ x ∈ Fa ++ Fb, w.heap.size ≤ x) ∧ ∃ y, W = ext w y
set_option maxRecDepth 100000 in
set_option maxHeartbeats 16000000 in
theorem sorted_any : ∀ (n : Nat) (A : Option Addr) (c : Nat) (rows : List (List Int)) (w : World) (_ : rows.length ≤ n) (_ : rows.length ≤ 1000000000) (_ : rows.length ≤ c) (_ : ∀ x ∈ rows, x.length ≤ 1000000000) (_ : RII w A rows),
    Calls Tryz.prog 93 #[.slice A rows.length c] w (SrtO rows w) := by
  intro n
  induction n with
  | zero =>
    intro A c rows w hn hx hc hxl h1
    obtain rfl := List.eq_nil_of_length_eq_zero (Nat.le_zero.1 hn)
    clear hn
    go_enter Tryz.func93, Tryz.ntmps93
    go_wp2_with (go_at_call 112; refine (copyRows_any hx hxl h1).mono ?_; rintro e w1 ⟨v1, F1, rfl, hx1, hS1, hN1, hF1⟩)
    go_ret
    exact ⟨v1, F1, rfl, hx1, hS1, hN1, hF1⟩
  | succ n ih =>
    intro A c rows w hn hx hcap hxl h1
    have IH := Lib.hid ih
    have Hxl := Lib.hid hxl
    clear ih hxl
    by_cases hs : rows.length < 2
    · have HS := Lib.hid (sortR_small hs)
      go_enter Tryz.func93, Tryz.ntmps93
      go_wp2_with (go_at_call 112; refine (copyRows_any hx Hxl.out h1).mono ?_; rintro e w1 ⟨v1, F1, rfl, hx1, hS1, hN1, hF1⟩)
      go_ret
      exact ⟨v1, F1, rfl, hx1, by rw [HS.out]; exact hS1, hN1, hF1⟩
    · obtain ⟨m, hm⟩ : ∃ m, rows.length / 2 = m := ⟨_, rfl⟩
      have HM := Lib.hid (show (rows.length : Int) / 2 = (m : Int) by omega)
      have m1 : m < rows.length := by omega
      have m2 : 0 < m := by omega
      have hne : ¬ c = m := by omega
      have hn2 : rows.length - m ≤ n := by omega
      have hn1 : m ≤ n := by omega
      have q0 : (m : Int) ≤ (c : Int) := by omega
      have q1 : (m : Int) ≤ (rows.length : Int) := by omega
      have q2 : (0 : Int) ≤ (m : Int) := by omega
      have q3 : (rows.length : Int) ≤ (c : Int) := by omega
      obtain ⟨b, o, hA⟩ := h1.pl (by omega)
      subst hA
      have HL := Lib.hid (show (rows.take m).length = m by simp; omega)
      have HR := Lib.hid (show (rows.drop m).length = rows.length - m by simp)
      have hv1 := h1.pre m
      have hv2 := h1.from (q := m) (A' := some ⟨b, o + m, none⟩) (fun b' o' e _ => by injection e with e; injection e with e1 e2; subst e1 e2; simp)
      have I1 := Lib.hid (fun (w' : World) (hx' : ∃ y, w' = ext w y) => IH.out (some ⟨b, o, none⟩) c (rows.take m) w' (by rw [HL.out]; exact hn1) (by rw [HL.out]; omega) (by rw [HL.out]; omega) (fun x hx => Hxl.out x (List.mem_of_mem_take hx)) (hv1.toExt hx'))
      have I2 := Lib.hid (fun (w' : World) (hx' : ∃ y, w' = ext w y) => IH.out (some ⟨b, o + m, none⟩) (c - m) (rows.drop m) w' (by rw [HR.out]; exact hn2) (by rw [HR.out]; omega) (by rw [HR.out]; omega) (fun x hx => Hxl.out x (List.mem_of_mem_drop hx)) (hv2.toExt hx'))
      rw [HL.out] at I1
      rw [HR.out] at I2
      go_enter Tryz.func93, Tryz.ntmps93
      go_upto_region 4 with fail
      rw [HM.out]
      go_cut [4, 5] (CutS (sortR (rows.take m)) (sortR (rows.drop m)) w)
      case first =>
        go_region_held3 (fun _ => True) (trivial) (first
          | (go_at_call 93; ((with_reducible refine (I1.out _ ?_).mono ?_); (focus (exact (by refine x'z ?_; repeat (with_reducible (first | exact x'a _ _ | exact x'b _ | exact x'c (by assumption) | refine x'd ?_ (by assumption) | refine x'e ?_ _ | refine x'f ?_ _ | refine x'g ?_ | refine x'h ?_ ?_ _ | refine x'i ?_ _ | refine x'j ?_ | refine x'k ?_ _ | refine x'l ?_ _ _ | refine x'm ?_ | assumption | (refine x'n ?_; omega) | omega)))))); rintro e w1 ⟨va, Fa, rfl, hx1, hSa, hNa, hFa⟩)
          | (go_at_call 93; ((with_reducible refine (I2.out _ ?_).mono ?_); (focus (exact (by refine x'z ?_; repeat (with_reducible (first | exact x'a _ _ | exact x'b _ | exact x'c (by assumption) | refine x'd ?_ (by assumption) | refine x'e ?_ _ | refine x'f ?_ _ | refine x'g ?_ | refine x'h ?_ ?_ _ | refine x'i ?_ _ | refine x'j ?_ | refine x'k ?_ _ | refine x'l ?_ _ _ | refine x'm ?_ | assumption | (refine x'n ?_; omega) | omega)))))); rintro e W ⟨vb, Fb, rfl, hx2, hSb, hNb, hFb⟩))
        all_goals
          go_wp2_with fail
          go_meet
          have hx1' : ∃ y, w1 = ext w y := (by refine x'z ?_; repeat (with_reducible (first | exact x'a _ _ | exact x'b _ | exact x'c (by assumption) | refine x'd ?_ (by assumption) | refine x'e ?_ _ | refine x'f ?_ _ | refine x'g ?_ | refine x'h ?_ ?_ _ | refine x'i ?_ _ | refine x'j ?_ | refine x'k ?_ _ | refine x'l ?_ _ _ | refine x'm ?_ | assumption | (refine x'n ?_; omega) | omega)))
          have hz1 := size_of_ext hx1'
          have hlt := hSa.lt
          refine ⟨Fa, Fb, hSa.toExt hx2, hSb, nodup_more hNa hNb hlt hFb, fun x hx => ?_, trans_ext hx1' hx2⟩
          rcases List.mem_append.1 hx with k | k
          · exact hFa x k
          · have := hFb x k; omega
      obtain ⟨Fa, Fb, hSa, hSb, hNab, hnew, hxW⟩ := hcut
      obtain ⟨W, rfl⟩ : ∃ W, W = wc := ⟨_, rfl⟩
      obtain ⟨Aa, ca, rfl, hca, _⟩ := hSa.form
      obtain ⟨Ab, cb, rfl, hcb, _⟩ := hSb.form
      obtain ⟨Ga, hpa, e1⟩ := hSa.part
      obtain ⟨Gb, hpb, e2⟩ := hSb.part
      have hMS := MS.start (rows := rows) (a := sortR (rows.take m)) (b := sortR (rows.drop m)) (by rw [hm]) (by rw [hm])
      have hla := sortR_length (rows.take m)
      have hlb := sortR_length (rows.drop m)
      rw [HL.out] at hla
      rw [HR.out] at hlb
      have hNG : (Ga ++ Gb).Nodup := by
        rw [e1, e2, List.append_assoc] at hNab
        have h2 := (List.nodup_append.1 hNab).2.1
        rw [List.nodup_append] at h2 ⊢
        refine ⟨h2.1, (List.nodup_append.1 h2.2.1).2.1, fun x hx y hy => h2.2.2 x hx y (by simp [hy])⟩
      have hnG : ∀ x ∈ Ga ++ Gb, w.heap.size ≤ x := fun x hx => hnew x (by
        rw [e1, e2]
        rcases List.mem_append.1 hx with k | k <;> simp [k])
      obtain ⟨sa, hsa⟩ : ∃ s, sortR (rows.take m) = s := ⟨_, rfl⟩
      obtain ⟨sb, hsb⟩ : ∃ s, sortR (rows.drop m) = s := ⟨_, rfl⟩
      rw [hsa] at hMS hla hca hpa ⊢
      rw [hsb] at hMS hlb hcb hpb ⊢
      have HMS := Lib.hid hMS
      have HWw := Lib.hid (size_of_ext hxW)
      clear hMS hsa hsb hm hv1 hv2 h1 e1 e2 hNab hnew hSa hSb I1 I2 IH
      go_wp2_with fail
      go_loopw [4, 5, 6] (fun a b o wr => RelI rows w W a b o wr) (fun a b _ _ => slLen a + slLen b)
      case atStart =>
        refine ⟨sa, sb, [], Aa, Ab, ca, cb, [], Ga, Gb, rfl, rfl, hca, hcb, hpa, hpb, SV.nil, Lib.hid (by simp), Lib.hid (by simpa using hNG), Lib.hid (fun x hx => ?_), refl_ext W, HMS, by simp; omega, Lib.hid (by simp [fpOf, Value.ownBlock])⟩
        rcases hx with k | k | k
        · simp at k
        · exact hnG x (by simp [k])
        · exact hnG x (by simp [k])
      case round =>
        obtain ⟨ls, rs, out, Aa, Ab, ca, cb, F, GA, GB, rfl, rfl, hca, hcb, hpa, hpb, hS, HN, HND, HNW, hy, HM, hlen, HFo⟩ := hrel
        match ls, rs with
        | [], [] =>
          have HD := Lib.hid HM.out.done
          go_wp2
          go_ret
          exact ⟨_, F, rfl, trans_ext hxW hy, by rw [← HD.out]; exact hS, HN.out, fun x hx => HNW.out x (.inl hx)⟩
        | [], y :: rs =>
          obtain ⟨b2, o2, A2, c2, H1, H2, rfl, hb2, hc2, hE2, hv2, hl2, hpb', rfl, hpn2⟩ := hpb.head hy
          have hlt2 : rs.length + 1 ≤ cb := hcb
          have HST := Lib.hid (HM.out.right (by simp))
          have HNd := Lib.hid (ndR HND.out)
          have hNd1 := (nd3 HNd.out).1
          have hl9 : out.length + rs.length + 1 ≤ 1000000000 := by simp at hlen; omega
          have HNWr := Lib.hid (fun b (hb : b ∈ F ∨ b ∈ H1 ∨ b ∈ GA ∨ b ∈ H2) => HNW.out b (by rcases hb with k | k | k | k <;> simp [k]))
          by_cases e1 : cb = 1
          · obtain rfl : rs = [] := List.eq_nil_of_length_eq_zero (by omega)
            subst e1
            have hvq := hpn2 rfl
            clear hpn2
            go_wp2_with (at_builtin; refine wpList_appM (E := sRow) (d := y) (G := H1) rfl _ _ _ rfl tIIr rfl rfl rfl (by simp) ⟨_, rfl, hE2⟩ rfl (by simp [Value.oneCell']) hS hNd1 (by omega) (by omega) ?_; intro v' w' F' hS' hC' hN' hF' hf')
            exact ⟨relI_step (ls := []) (rs := []) (G := H1) hpa hvq hca (by simp) hy HWw.out HNd.out HNWr.out HFo.out hS' hC' hN' hF' hf' HST.out (by simpa using hl9), by simp [slLen]⟩
          · skip
            go_wp2_with (at_builtin; refine wpList_appM (E := sRow) (d := y) (G := H1) rfl _ _ _ rfl tIIr rfl rfl rfl (by simp) ⟨_, rfl, hE2⟩ rfl (by simp [Value.oneCell']) hS hNd1 (by omega) (by omega) ?_; intro v' w' F' hS' hC' hN' hF' hf')
            exact ⟨relI_step (ls := []) (rs := rs) (G := H1) hpa hpb' hca (by omega) hy HWw.out HNd.out HNWr.out HFo.out hS' hC' hN' hF' hf' HST.out (by simpa using hl9), by simp [slLen]⟩
        | x :: ls, [] =>
          obtain ⟨b1, o1, A1, c1, G1, G2, rfl, hb1, hc1, hE1, hv1, hl1, hpa', rfl, hpn1⟩ := hpa.head hy
          have hlt1 : ls.length + 1 ≤ ca := hca
          have HST := Lib.hid (HM.out.left (by simp))
          have HNd := Lib.hid (ndL HND.out)
          have hNd1 := (nd3 HNd.out).1
          have hl9 : out.length + ls.length + 1 ≤ 1000000000 := by simp at hlen; omega
          have HNWr := Lib.hid (fun b (hb : b ∈ F ∨ b ∈ G1 ∨ b ∈ G2 ∨ b ∈ GB) => HNW.out b (by rcases hb with k | k | k | k <;> simp [k]))
          by_cases e1 : ca = 1
          · obtain rfl : ls = [] := List.eq_nil_of_length_eq_zero (by omega)
            subst e1
            have hvq := hpn1 rfl
            clear hpn1
            go_wp2_with (at_builtin; refine wpList_appM (E := sRow) (d := x) (G := G1) rfl _ _ _ rfl tIIr rfl rfl rfl (by simp) ⟨_, rfl, hE1⟩ rfl (by simp [Value.oneCell']) hS hNd1 (by omega) (by omega) ?_; intro v' w' F' hS' hC' hN' hF' hf')
            exact ⟨relI_step (ls := []) (rs := []) (G := G1) hvq hpb (by simp) hcb hy HWw.out HNd.out HNWr.out HFo.out hS' hC' hN' hF' hf' HST.out (by simpa using hl9), by simp [slLen]⟩
          · skip
            go_wp2_with (at_builtin; refine wpList_appM (E := sRow) (d := x) (G := G1) rfl _ _ _ rfl tIIr rfl rfl rfl (by simp) ⟨_, rfl, hE1⟩ rfl (by simp [Value.oneCell']) hS hNd1 (by omega) (by omega) ?_; intro v' w' F' hS' hC' hN' hF' hf')
            exact ⟨relI_step (ls := ls) (rs := []) (G := G1) hpa' hpb (by omega) hcb hy HWw.out HNd.out HNWr.out HFo.out hS' hC' hN' hF' hf' HST.out (by simpa using hl9), by simp [slLen]⟩
        | x :: ls, y :: rs =>
          obtain ⟨b1, o1, A1, c1, G1, G2, rfl, hb1, hc1, hE1, hv1, hl1, hpa', rfl, hpn1⟩ := hpa.head hy
          have hlt1 : ls.length + 1 ≤ ca := hca
          obtain ⟨b2, o2, A2, c2, H1, H2, rfl, hb2, hc2, hE2, hv2, hl2, hpb', rfl, hpn2⟩ := hpb.head hy
          have hlt2 : rs.length + 1 ≤ cb := hcb
          have lx := Hxl.out x ((HM.out.m x).2 (by simp))
          have ly := Hxl.out y ((HM.out.m y).2 (by simp))
          have hl8 : out.length + ls.length + rs.length + 2 ≤ 1000000000 := by simp at hlen; omega
          have hl9 : out.length + 1 ≤ 2000000000 := by omega
          obtain ⟨C, hC⟩ : ∃ C, cmpL x y = C := ⟨_, rfl⟩
          have HC := Lib.hid hC
          by_cases h1 : 0 < C
          · have HST := Lib.hid (HM.out.right (lt_tail HM.out.sa (cmpL_pos (by rw [hC]; exact h1))))
            have HNd := Lib.hid (ndR HND.out)
            have hNd1 := (nd3 HNd.out).1
            have HNWr := Lib.hid (fun b (hb : b ∈ F ∨ b ∈ H1 ∨ b ∈ G1 ++ G2 ∨ b ∈ H2) => HNW.out b (by rcases hb with k | k | k | k <;> simp_all))
            have HPA := Lib.hid hpa
            have hCle : ¬ C ≤ 0 := by omega
            have hCge : 0 ≤ C := by omega
            clear hC hpn1 hpa' hpa
            go_upto_region 11 with fail
            refine wp_region_ext (by kernel_rfl) (by kernel_rfl) ?_
            repeat (go_big_quiet_step ((go_at_call 113; exact quietEj (CompareRows_any lx (hv1.toExt (by refine x'z ?_; repeat (with_reducible (first | exact x'a _ _ | exact x'b _ | exact x'c (by assumption) | refine x'd ?_ (by assumption) | refine x'e ?_ _ | refine x'f ?_ _ | refine x'g ?_ | refine x'h ?_ ?_ _ | refine x'i ?_ _ | refine x'j ?_ | refine x'k ?_ _ | refine x'l ?_ _ _ | refine x'm ?_ | assumption | (refine x'n ?_; omega) | omega)))) ly (hv2.toExt (by refine x'z ?_; repeat (with_reducible (first | exact x'a _ _ | exact x'b _ | exact x'c (by assumption) | refine x'd ?_ (by assumption) | refine x'e ?_ _ | refine x'f ?_ _ | refine x'g ?_ | refine x'h ?_ ?_ _ | refine x'i ?_ _ | refine x'j ?_ | refine x'k ?_ _ | refine x'l ?_ _ _ | refine x'm ?_ | assumption | (refine x'n ?_; omega) | omega))))) HC.out)))
            refine wpQuiet_nil ?_
            rintro _ ⟨zz, rfl⟩
            have hS := hS.toExt (⟨zz, rfl⟩ : ∃ y, ext wr zz = ext wr y)
            have hE1 := hE1.toExt (⟨zz, rfl⟩ : ∃ y, ext wr zz = ext wr y)
            have hE2 := hE2.toExt (⟨zz, rfl⟩ : ∃ y, ext wr zz = ext wr y)
            by_cases e1 : cb = 1
            · obtain rfl : rs = [] := List.eq_nil_of_length_eq_zero (by omega)
              subst e1
              have hvq := hpn2 rfl
              clear hpn2
              go_wp2_with (at_builtin; refine wpList_appM (E := sRow) (d := y) (G := H1) rfl _ _ _ rfl tIIr rfl rfl rfl (by simp) ⟨_, rfl, hE2⟩ rfl (by simp [Value.oneCell']) hS hNd1 (by omega) (by omega) ?_; intro v' w' F' hS' hC' hN' hF' hf')
              exact ⟨relI_step (ls := x :: ls) (rs := []) (G := H1) HPA.out hvq hca (by simp) (by exact (by refine x'z ?_; repeat (with_reducible (first | exact x'a _ _ | exact x'b _ | exact x'c (by assumption) | refine x'd ?_ (by assumption) | refine x'e ?_ _ | refine x'f ?_ _ | refine x'g ?_ | refine x'h ?_ ?_ _ | refine x'i ?_ _ | refine x'j ?_ | refine x'k ?_ _ | refine x'l ?_ _ _ | refine x'm ?_ | assumption | (refine x'n ?_; omega) | omega)))) HWw.out HNd.out HNWr.out HFo.out hS' hC' hN' hF' hf' HST.out (by simp at hl8 ⊢; omega), by simp [slLen]⟩
            · skip
              go_wp2_with (at_builtin; refine wpList_appM (E := sRow) (d := y) (G := H1) rfl _ _ _ rfl tIIr rfl rfl rfl (by simp) ⟨_, rfl, hE2⟩ rfl (by simp [Value.oneCell']) hS hNd1 (by omega) (by omega) ?_; intro v' w' F' hS' hC' hN' hF' hf')
              exact ⟨relI_step (ls := x :: ls) (rs := rs) (G := H1) HPA.out hpb' hca (by omega) (by exact (by refine x'z ?_; repeat (with_reducible (first | exact x'a _ _ | exact x'b _ | exact x'c (by assumption) | refine x'd ?_ (by assumption) | refine x'e ?_ _ | refine x'f ?_ _ | refine x'g ?_ | refine x'h ?_ ?_ _ | refine x'i ?_ _ | refine x'j ?_ | refine x'k ?_ _ | refine x'l ?_ _ _ | refine x'm ?_ | assumption | (refine x'n ?_; omega) | omega)))) HWw.out HNd.out HNWr.out HFo.out hS' hC' hN' hF' hf' HST.out (by simp at hl8 ⊢; omega), by simp [slLen]⟩
          · by_cases h2 : C = 0
            · obtain rfl : x = y := cmpL_zero.1 (by rw [hC]; exact h2)
              subst h2
              have HST := Lib.hid HM.out.both
              have HNd := Lib.hid (ndB HND.out)
              have hNd1 := (nd3 HNd.out).1
              have HNWr := Lib.hid (fun b (hb : b ∈ F ∨ b ∈ G1 ∨ b ∈ G2 ∨ b ∈ H2) => HNW.out b (by rcases hb with k | k | k | k <;> simp [k]))
              have HPA1 := Lib.hid hpn1
              have HPB1 := Lib.hid hpn2
              clear hC hpn1 hpn2
              go_upto_region 11 with fail
              refine wp_region_ext (by kernel_rfl) (by kernel_rfl) ?_
              repeat (go_big_quiet_step ((go_at_call 113; exact quietEj (CompareRows_any lx (hv1.toExt (by refine x'z ?_; repeat (with_reducible (first | exact x'a _ _ | exact x'b _ | exact x'c (by assumption) | refine x'd ?_ (by assumption) | refine x'e ?_ _ | refine x'f ?_ _ | refine x'g ?_ | refine x'h ?_ ?_ _ | refine x'i ?_ _ | refine x'j ?_ | refine x'k ?_ _ | refine x'l ?_ _ _ | refine x'm ?_ | assumption | (refine x'n ?_; omega) | omega)))) ly (hv2.toExt (by refine x'z ?_; repeat (with_reducible (first | exact x'a _ _ | exact x'b _ | exact x'c (by assumption) | refine x'd ?_ (by assumption) | refine x'e ?_ _ | refine x'f ?_ _ | refine x'g ?_ | refine x'h ?_ ?_ _ | refine x'i ?_ _ | refine x'j ?_ | refine x'k ?_ _ | refine x'l ?_ _ _ | refine x'm ?_ | assumption | (refine x'n ?_; omega) | omega))))) HC.out)))
              refine wpQuiet_nil ?_
              rintro _ ⟨zz, rfl⟩
              have hS := hS.toExt (⟨zz, rfl⟩ : ∃ y, ext wr zz = ext wr y)
              have hE1 := hE1.toExt (⟨zz, rfl⟩ : ∃ y, ext wr zz = ext wr y)
              have hE2 := hE2.toExt (⟨zz, rfl⟩ : ∃ y, ext wr zz = ext wr y)
              by_cases e1 : ca = 1
              · obtain rfl : ls = [] := List.eq_nil_of_length_eq_zero (by omega)
                subst e1
                by_cases e2 : cb = 1
                · obtain rfl : rs = [] := List.eq_nil_of_length_eq_zero (by omega)
                  subst e2
                  go_wp2_with (at_builtin; refine wpList_appM (E := sRow) (d := x) (G := G1) rfl _ _ _ rfl tIIr rfl rfl rfl (by simp) ⟨_, rfl, hE1⟩ rfl (by simp [Value.oneCell']) hS hNd1 (by omega) (by omega) ?_; intro v' w' F' hS' hC' hN' hF' hf')
                  exact ⟨relI_step (ls := []) (rs := []) (G := G1) (HPA1.out rfl) (HPB1.out rfl) (by simp) (by simp) (by exact (by refine x'z ?_; repeat (with_reducible (first | exact x'a _ _ | exact x'b _ | exact x'c (by assumption) | refine x'd ?_ (by assumption) | refine x'e ?_ _ | refine x'f ?_ _ | refine x'g ?_ | refine x'h ?_ ?_ _ | refine x'i ?_ _ | refine x'j ?_ | refine x'k ?_ _ | refine x'l ?_ _ _ | refine x'm ?_ | assumption | (refine x'n ?_; omega) | omega)))) HWw.out HNd.out HNWr.out HFo.out hS' hC' hN' hF' hf' HST.out (by simp at hl8 ⊢; omega), by simp [slLen]⟩
                · skip
                  go_wp2_with (at_builtin; refine wpList_appM (E := sRow) (d := x) (G := G1) rfl _ _ _ rfl tIIr rfl rfl rfl (by simp) ⟨_, rfl, hE1⟩ rfl (by simp [Value.oneCell']) hS hNd1 (by omega) (by omega) ?_; intro v' w' F' hS' hC' hN' hF' hf')
                  exact ⟨relI_step (ls := []) (rs := rs) (G := G1) (HPA1.out rfl) hpb' (by simp) (by omega) (by exact (by refine x'z ?_; repeat (with_reducible (first | exact x'a _ _ | exact x'b _ | exact x'c (by assumption) | refine x'd ?_ (by assumption) | refine x'e ?_ _ | refine x'f ?_ _ | refine x'g ?_ | refine x'h ?_ ?_ _ | refine x'i ?_ _ | refine x'j ?_ | refine x'k ?_ _ | refine x'l ?_ _ _ | refine x'm ?_ | assumption | (refine x'n ?_; omega) | omega)))) HWw.out HNd.out HNWr.out HFo.out hS' hC' hN' hF' hf' HST.out (by simp at hl8 ⊢; omega), by simp [slLen]; omega⟩
              · by_cases e2 : cb = 1
                · obtain rfl : rs = [] := List.eq_nil_of_length_eq_zero (by omega)
                  subst e2
                  go_wp2_with (at_builtin; refine wpList_appM (E := sRow) (d := x) (G := G1) rfl _ _ _ rfl tIIr rfl rfl rfl (by simp) ⟨_, rfl, hE1⟩ rfl (by simp [Value.oneCell']) hS hNd1 (by omega) (by omega) ?_; intro v' w' F' hS' hC' hN' hF' hf')
                  exact ⟨relI_step (ls := ls) (rs := []) (G := G1) hpa' (HPB1.out rfl) (by omega) (by simp) (by exact (by refine x'z ?_; repeat (with_reducible (first | exact x'a _ _ | exact x'b _ | exact x'c (by assumption) | refine x'd ?_ (by assumption) | refine x'e ?_ _ | refine x'f ?_ _ | refine x'g ?_ | refine x'h ?_ ?_ _ | refine x'i ?_ _ | refine x'j ?_ | refine x'k ?_ _ | refine x'l ?_ _ _ | refine x'm ?_ | assumption | (refine x'n ?_; omega) | omega)))) HWw.out HNd.out HNWr.out HFo.out hS' hC' hN' hF' hf' HST.out (by simp at hl8 ⊢; omega), by simp [slLen]; omega⟩
                · skip
                  go_wp2_with (at_builtin; refine wpList_appM (E := sRow) (d := x) (G := G1) rfl _ _ _ rfl tIIr rfl rfl rfl (by simp) ⟨_, rfl, hE1⟩ rfl (by simp [Value.oneCell']) hS hNd1 (by omega) (by omega) ?_; intro v' w' F' hS' hC' hN' hF' hf')
                  exact ⟨relI_step (ls := ls) (rs := rs) (G := G1) hpa' hpb' (by omega) (by omega) (by exact (by refine x'z ?_; repeat (with_reducible (first | exact x'a _ _ | exact x'b _ | exact x'c (by assumption) | refine x'd ?_ (by assumption) | refine x'e ?_ _ | refine x'f ?_ _ | refine x'g ?_ | refine x'h ?_ ?_ _ | refine x'i ?_ _ | refine x'j ?_ | refine x'k ?_ _ | refine x'l ?_ _ _ | refine x'm ?_ | assumption | (refine x'n ?_; omega) | omega)))) HWw.out HNd.out HNWr.out HFo.out hS' hC' hN' hF' hf' HST.out (by simp at hl8 ⊢; omega), by simp [slLen]; omega⟩
            · have HST := Lib.hid (HM.out.left (lt_tail HM.out.sb (by rw [hC]; omega)))
              have HNd := Lib.hid (ndL HND.out)
              have hNd1 := (nd3 HNd.out).1
              have HNWr := Lib.hid (fun b (hb : b ∈ F ∨ b ∈ G1 ∨ b ∈ G2 ∨ b ∈ H1 ++ H2) => HNW.out b (by rcases hb with k | k | k | k <;> simp_all))
              have HPB := Lib.hid hpb
              have hCle : C ≤ 0 := by omega
              have hCge : ¬ 0 ≤ C := by omega
              clear hC hpn2 hpb' hpb
              go_upto_region 11 with fail
              refine wp_region_ext (by kernel_rfl) (by kernel_rfl) ?_
              repeat (go_big_quiet_step ((go_at_call 113; exact quietEj (CompareRows_any lx (hv1.toExt (by refine x'z ?_; repeat (with_reducible (first | exact x'a _ _ | exact x'b _ | exact x'c (by assumption) | refine x'd ?_ (by assumption) | refine x'e ?_ _ | refine x'f ?_ _ | refine x'g ?_ | refine x'h ?_ ?_ _ | refine x'i ?_ _ | refine x'j ?_ | refine x'k ?_ _ | refine x'l ?_ _ _ | refine x'm ?_ | assumption | (refine x'n ?_; omega) | omega)))) ly (hv2.toExt (by refine x'z ?_; repeat (with_reducible (first | exact x'a _ _ | exact x'b _ | exact x'c (by assumption) | refine x'd ?_ (by assumption) | refine x'e ?_ _ | refine x'f ?_ _ | refine x'g ?_ | refine x'h ?_ ?_ _ | refine x'i ?_ _ | refine x'j ?_ | refine x'k ?_ _ | refine x'l ?_ _ _ | refine x'm ?_ | assumption | (refine x'n ?_; omega) | omega))))) HC.out)))
              refine wpQuiet_nil ?_
              rintro _ ⟨zz, rfl⟩
              have hS := hS.toExt (⟨zz, rfl⟩ : ∃ y, ext wr zz = ext wr y)
              have hE1 := hE1.toExt (⟨zz, rfl⟩ : ∃ y, ext wr zz = ext wr y)
              have hE2 := hE2.toExt (⟨zz, rfl⟩ : ∃ y, ext wr zz = ext wr y)
              by_cases e1 : ca = 1
              · obtain rfl : ls = [] := List.eq_nil_of_length_eq_zero (by omega)
                subst e1
                have hvq := hpn1 rfl
                clear hpn1
                go_wp2_with (at_builtin; refine wpList_appM (E := sRow) (d := x) (G := G1) rfl _ _ _ rfl tIIr rfl rfl rfl (by simp) ⟨_, rfl, hE1⟩ rfl (by simp [Value.oneCell']) hS hNd1 (by omega) (by omega) ?_; intro v' w' F' hS' hC' hN' hF' hf')
                exact ⟨relI_step (ls := []) (rs := y :: rs) (G := G1) hvq HPB.out (by simp) hcb (by exact (by refine x'z ?_; repeat (with_reducible (first | exact x'a _ _ | exact x'b _ | exact x'c (by assumption) | refine x'd ?_ (by assumption) | refine x'e ?_ _ | refine x'f ?_ _ | refine x'g ?_ | refine x'h ?_ ?_ _ | refine x'i ?_ _ | refine x'j ?_ | refine x'k ?_ _ | refine x'l ?_ _ _ | refine x'm ?_ | assumption | (refine x'n ?_; omega) | omega)))) HWw.out HNd.out HNWr.out HFo.out hS' hC' hN' hF' hf' HST.out (by simp at hl8 ⊢; omega), by simp [slLen]⟩
              · skip
                go_wp2_with (at_builtin; refine wpList_appM (E := sRow) (d := x) (G := G1) rfl _ _ _ rfl tIIr rfl rfl rfl (by simp) ⟨_, rfl, hE1⟩ rfl (by simp [Value.oneCell']) hS hNd1 (by omega) (by omega) ?_; intro v' w' F' hS' hC' hN' hF' hf')
                exact ⟨relI_step (ls := ls) (rs := y :: rs) (G := G1) hpa' HPB.out (by omega) hcb (by exact (by refine x'z ?_; repeat (with_reducible (first | exact x'a _ _ | exact x'b _ | exact x'c (by assumption) | refine x'd ?_ (by assumption) | refine x'e ?_ _ | refine x'f ?_ _ | refine x'g ?_ | refine x'h ?_ ?_ _ | refine x'i ?_ _ | refine x'j ?_ | refine x'k ?_ _ | refine x'l ?_ _ _ | refine x'm ?_ | assumption | (refine x'n ?_; omega) | omega)))) HWw.out HNd.out HNWr.out HFo.out hS' hC' hN' hF' hf' HST.out (by simp at hl8 ⊢; omega), by simp [slLen]⟩
end Go.Proofs.YtfigcfajkilhiaaGreat
