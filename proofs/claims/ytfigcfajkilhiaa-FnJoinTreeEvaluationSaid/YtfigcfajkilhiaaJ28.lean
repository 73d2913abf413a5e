/- Contracts of functions that the statement reaches. -/
import Derived.Test.YtfigcfajkilhiaaJ27
import Derived.Test.YtfigcfajkilhiaaJ09
import Derived.Test.YtfigcfajkilhiaaJ14
import Derived.Test.YtfigcfajkilhiaaJ12
namespace Go.Proofs.Ytfigcfajkilhiaa
open Go.RowKit
theorem fitX_step {X vs ys : List Int} {k : Nat} (h : k < vs.length) (h' : k < ys.length) : fitX X (vs.drop k) (ys.drop k) = if X.getD (vs.getD k 0).toNat 0 = -1 ∨ X.getD (vs.getD k 0).toNat 0 = ys.getD k 0 then fitX (X.set (vs.getD k 0).toNat (ys.getD k 0)) (vs.drop (k + 1)) (ys.drop (k + 1)) else none := by
  rw [List.drop_eq_getElem_cons h, List.drop_eq_getElem_cons h', fitX, getDl _ _ h, getDl _ _ h']
theorem fitX_end {X vs ys : List Int} {k : Nat} (h : ¬ k < vs.length) : fitX X (vs.drop k) (ys.drop k) = some X := by
  rw [List.drop_eq_nil_of_le (by omega)]
  cases ys.drop k <;> rfl
theorem fitX_len : ∀ {vs ys X z : List Int}, fitX X vs ys = some z → z.length = X.length
  | [], [], X, z, h => by simp [fitX] at h; rw [h]
  | [], _ :: _, X, z, h => by simp [fitX] at h; rw [h]
  | _ :: _, [], X, z, h => by simp [fitX] at h; rw [h]
  | v :: vs, y :: ys, X, z, h => by
    rw [fitX] at h
    split at h
    · rw [fitX_len h, List.length_set]
    · cases h
def walk1 (d : Dbd) (ats : List At) (vs row r : List Int) : List (List Int) := match fitX row vs r with | some x => walkL d ats x | none => []
theorem walk_cons {d : Dbd} {a : At} {ats : List At} {row : List Int} : walkL d (a :: ats) row = (relOf d a).2.flatMap (walk1 d ats a.2 row) := rfl
theorem walk1_some {d : Dbd} {ats : List At} {vs row r x : List Int} (h : fitX row vs r = some x) : walk1 d ats vs row r = walkL d ats x := by unfold walk1; rw [h]
theorem walk1_none {d : Dbd} {ats : List At} {vs row r : List Int} (h : fitX row vs r = none) : walk1 d ats vs row r = [] := by unfold walk1; rw [h]
theorem walkL_el {d : Dbd} : ∀ {ats : List At} {row z : List Int}, z ∈ walkL d ats row → z.length = row.length
  | [], row, z, h => by rw [walkL, List.mem_singleton] at h; rw [h]
  | a :: ats, row, z, h => by
    rw [walk_cons, List.mem_flatMap] at h
    obtain ⟨r, _, hz⟩ := h
    unfold walk1 at hz
    split at hz
    · rename_i x e
      rw [walkL_el hz, fitX_len e]
    · simp at hz
theorem flat_bd {α β : Type} {f : α → List β} {n : Nat} (h : ∀ a, (f a).length ≤ n) : ∀ (l : List α), (l.flatMap f).length ≤ n * l.length
  | [] => by simp
  | a :: l => by
    have := flat_bd h l
    have h1 := h a
    rw [List.flatMap_cons, List.length_append, List.length_cons, Nat.mul_add]
    omega
theorem walkL_len {d : Dbd} : ∀ {ats : List At} {row : List Int}, (∀ a ∈ ats, (relOf d a).2.length ≤ 16) → (walkL d ats row).length ≤ 16 ^ ats.length
  | [], row, _ => by simp [walkL]
  | a :: ats, row, h => by
    have h1 := h a (by simp)
    rw [walk_cons]
    have h2 : ∀ r, (walk1 d ats a.2 row r).length ≤ 16 ^ ats.length := fun r => by
      unfold walk1
      split
      · exact walkL_len fun b hb => h b (by simp [hb])
      · simp
    refine Nat.le_trans (flat_bd h2 _) ?_
    rw [List.length_cons, Nat.pow_succ]
    exact Nat.mul_le_mul_left _ h1
theorem flat_step {α β : Type} {f : α → List β} {l : List α} {k : Nat} (h : k < l.length) : (l.take (k + 1)).flatMap f = (l.take k).flatMap f ++ f l[k] := by
  rw [List.take_succ_eq_append_getElem h, List.flatMap_append]
  simp
theorem flat_take_len {α β : Type} {f : α → List β} {l : List α} {k : Nat} : ((l.take k).flatMap f).length ≤ (l.flatMap f).length := by
  have : l.flatMap f = (l.take k).flatMap f ++ (l.drop k).flatMap f := by rw [← List.flatMap_append, List.take_append_drop]
  rw [this]
  simp
theorem SV.lit1 {α : Type} {te : Nat} {E : SE α} [SMono E] {w : World} {v : Value} {d : α} {G : List Nat} (hE : E w [v] d G) : SV te 1 E (w.alloc (.cells #[v] te)) (.slice (some ⟨w.heap.size, 0, none⟩) 1 1) [d] (w.heap.size :: G) :=
  ⟨[v], G, ⟨by simp, .inr ⟨w.heap.size, 1, #[v], rfl, Nat.zero_le _, heap_alloc_new w _, Nat.le_refl _, by simp [maxLen], by simp, by simp⟩⟩, elems_one rfl (SMono.keep hE fun b hb => by
    obtain ⟨y, e⟩ := alloc_ext w (.cells #[v] te)
    rw [e]; exact (below_ext w y).block b (SMono.lt hE b hb)), rfl⟩
section
variable {P : Program} {w : World} {α : Type} {E : SE α} [SMono E] {te size bytes : Nat}
theorem wpList_appP {ops : Array Oper} {rest : List Oper} {o : Oper} {a : Act} {Q : Exit → Act → World → Prop} (hgd : o.guard = none) (s x : Operand) (t : TypeId)
    (ho : o.op = .call { callee := .builtin .append, args := #[s, x], argTypes := #[t, t] })
    {z : Value} (hT : SlT P t te size bytes z) {v : Value} {ds : List α} {F : List Nat} (hs : a.eval s = v) (hS : SV te size E w v ds F) (hN : F.Nodup)
    {A : Option Addr} {m c : Nat} {es : List α} {G : List Nat} (hx : a.eval x = .slice A m c) (hm : m = es.length) (hL : Lie size E w A es G) (hN2 : (F ++ G).Nodup) (hlen : ds.length + m ≤ 2000000000) (hby : bytes ≤ 60000)
    (h : ∀ v' w' F', SV te size E w' v' (ds ++ es) F' → Chg F w w' → F'.Nodup → (∀ b ∈ F', b ∈ F ∨ b ∈ G ∨ w.heap.size ≤ b) → wpList P ops Q rest (a.put o.dst v') w') : wpList P ops Q (o :: rest) a w :=
  wpList_plain hgd fun _ hK => wp_appP s x t ho hT hs hS hN hx hm hL hN2 hlen hby fun v' w' F' h2 h3 h4 h5 => hK _ _ (h v' w' F' h2 h3 h4 h5)
end
theorem sRow_1 (w : World) (c : List Value) (d : List Int) (F : List Nat) (h : sRow w c d F) : ∀ u ∈ c, u.oneCell' = true := by
  obtain ⟨v, rfl, h⟩ := h
  obtain ⟨A, cap, rfl, _⟩ := h.form
  simp [Value.oneCell']
theorem SV.whole {te : Nat} {w : World} {A : Option Addr} {n c : Nat} {ds : List (List Int)} {F : List Nat} (h : SV te 1 sRow w (.slice A n c) ds F) (hN : F.Nodup) : ∃ G, Lie 1 sRow w A ds G ∧ G.Nodup ∧ (∀ b ∈ G, b ∈ F) := by
  obtain ⟨A', cap, G1, G2, e, _, _, _, _, _, m1, _, n1, _, _, L1, _⟩ := h.parts (fun w c d F h => sRow_1 w c d F h) hN (k := ds.length) (Nat.le_refl _)
  injection e with e _ _
  subst e
  rw [List.take_length] at L1
  exact ⟨G1, L1, n1, m1⟩
def WalkP (d : Dbd) (q : Qd) (n : Nat) (row : List Int) (w : World) (e : Ending) (w' : World) : Prop := ∃ A c F, e = .returned (.slice A (walkL d (q.2.1.drop n) row).length c) ∧ (∃ y, w' = ext w y) ∧ SV 48 1 sRow w' (.slice A (walkL d (q.2.1.drop n) row).length c) (walkL d (q.2.1.drop n) row) F ∧ F.Nodup ∧ ∀ b ∈ F, w.heap.size ≤ b
theorem walkP_mk {d : Dbd} {q : Qd} {n : Nat} {row : List Int} {w w' : World} {e : Ending} {v : Value} {l : List (List Int)} {F : List Nat} (hl : walkL d (q.2.1.drop n) row = l) (he : e = .returned v) (hx : ∃ y, w' = ext w y) (hS : SV 48 1 sRow w' v l F) (hN : F.Nodup) (hF : ∀ b ∈ F, w.heap.size ≤ b) : WalkP d q n row w e w' := by
  subst hl
  obtain ⟨A, c, rfl, _⟩ := hS.form
  exact ⟨A, c, F, he, hx, hS, hN, hF⟩
def CutW (o : Option Rd) (W : World) (va vb : Value) (wx : World) : Prop := ∃ b A c F, va = .pointer (some ⟨b, 0, none⟩) ∧ vb = .bool o.isSome ∧ BoxAt wx b #[.int .i64 (o.getD (0, [])).1, .slice A (o.getD (0, [])).2.length c] ∧ sII wx [.slice A (o.getD (0, [])).2.length c] (o.getD (0, [])).2 F ∧ (∀ x ∈ F, W.heap.size ≤ x) ∧ W.heap.size ≤ b ∧ ∃ y, wx = ext W y
set_option maxRecDepth 100000 in
set_option maxHeartbeats 16000000 in
theorem l8Walk_any {A B C : Option Addr} {c e g nr : Nat} {d : Dbd} {q : Qd} {W0 : World} (hd : WDb d) (h1 : RV 3 vTb W0 A d) (h2 : vQ W0 [.int .i64 q.1, .slice B q.2.1.length e, .slice C q.2.2.length g] q) (hq : QOk d q) (hnr : (nr : Int) = q.1) : ∀ (m n : Nat) (R : Option Addr) (cr : Nat) (row : List Int) (w : World) (_ : n + m = q.2.1.length) (_ : ∃ y, w = ext W0 y) (_ : row.length = nr) (_ : RI w R row),
    Calls Try.prog 103 #[.agg #[.slice A d.length c], .agg #[.int .i64 q.1, .slice B q.2.1.length e, .slice C q.2.2.length g], .int .i64 n, .slice R nr cr] w (WalkP d q n row w) := by
  have HD := Lib.hid hd
  have HQ := Lib.hid hq
  have h3 := (vAts_get (vQ_get h2).1).2
  have hal := hq.at4
  have hn1 := hq.n1
  have hn5 := hq.n5
  have HNR := Lib.hid hnr
  clear hd hq h2 hnr
  intro m
  induction m with
  | zero =>
    as_aux_lemma =>
    intro n R cr row w hnm hw0 hrl hR
    have hn : n = q.2.1.length := by omega
    have HL := Lib.hid (show walkL d (q.2.1.drop n) row = [row] by rw [List.drop_eq_nil_of_le (by omega)]; rfl)
    have hrl2 : row.length ≤ 2000000000 := by have := HNR.out; omega
    go_enter Try.func103, Try.ntmps103
    go_upto_region 1 with fail
    refine wp_name ?_
    intro W hW
    have xW : ∃ y, W = ext w y := by rw [hW.out]; exact (by refine x'z ?_; repeat (with_reducible (first | exact x'a _ _ | exact x'b _ | exact x'c (by assumption) | refine x'd ?_ (by assumption) | refine x'e ?_ _ | refine x'f ?_ _ | refine x'g ?_ | refine x'h ?_ ?_ _ | refine x'i ?_ _ | refine x'j ?_ | refine x'k ?_ _ | refine x'l ?_ _ _ | refine x'm ?_ | assumption | (refine x'n ?_; omega) | omega)))
    have QW : BoxAt W (w.heap.size + 1) #[.int .i64 q.1, .slice B q.2.1.length e, .slice C q.2.2.length g] := by
      rw [hW.out]
      simpa using BoxAt.new (w.alloc (.cells #[.slice A d.length c] 29)) #[.int .i64 q.1, .slice B q.2.1.length e, .slice C q.2.2.length g] 55
    obtain ⟨lq, q0, q1, q2, fq⟩ := box3 QW
    have hS0 := SV.empty (α := Int) (te := 3) (size := 1) (E := sI) W
    have hzW := size_of_ext xW
    have hbe : ((n : Int) == (q.2.1.length : Int)) = true := by simp; omega
    have HRL := Lib.hid hrl
    clear hW hn hrl
    go_wp2_with (at_builtin; refine wpList_appV (E := sI) (V := vI) (es := row) rfl _ _ _ rfl tI rfl hS0 rfl HRL.out.symm (hR.toExt (trans_ext xW (by refine x'z ?_; repeat (with_reducible (first | exact x'a _ _ | exact x'b _ | exact x'c (by assumption) | refine x'd ?_ (by assumption) | refine x'e ?_ _ | refine x'f ?_ _ | refine x'g ?_ | refine x'h ?_ ?_ _ | refine x'i ?_ _ | refine x'j ?_ | refine x'k ?_ _ | refine x'l ?_ _ _ | refine x'm ?_ | assumption | (refine x'n ?_; omega) | omega))))) vI_s vI_1 (by have := HRL.out; simp; omega) (by omega) ?_; intro v' w' F' hS hC hF; rw [List.nil_append] at hS; obtain ⟨A9, c9, rfl, _, _⟩ := hS.form)
    go_ret
    have hxw' : ∃ y, w' = ext W y := hC.isExt (by refine x'z ?_; repeat (with_reducible (first | exact x'a _ _ | exact x'b _ | exact x'c (by assumption) | refine x'd ?_ (by assumption) | refine x'e ?_ _ | refine x'f ?_ _ | refine x'g ?_ | refine x'h ?_ ?_ _ | refine x'i ?_ _ | refine x'j ?_ | refine x'k ?_ _ | refine x'l ?_ _ _ | refine x'm ?_ | assumption | (refine x'n ?_; omega) | omega))) (by simp)
    have hFn : ∀ b ∈ F', W.heap.size ≤ b := fun b hb => by
      rcases hF b hb with h | h
      · simp at h; omega
      · simp at h; omega
    refine walkP_mk HL.out rfl (by refine x'z ?_; repeat (with_reducible (first | exact x'a _ _ | exact x'b _ | exact x'c (by assumption) | refine x'd ?_ (by assumption) | refine x'e ?_ _ | refine x'f ?_ _ | refine x'g ?_ | refine x'h ?_ ?_ _ | refine x'i ?_ _ | refine x'j ?_ | refine x'k ?_ _ | refine x'l ?_ _ _ | refine x'm ?_ | assumption | (refine x'n ?_; omega) | omega))) (SV.lit1 (te := 48) (E := sRow) (d := row) (G := F') ⟨_, rfl, hS⟩) ?_ ?_
    · rw [List.nodup_cons]
      exact ⟨fun h => by have := hS.lt _ h; omega, hS.nodup⟩
    · intro b hb
      have := size_of_ext hxw'
      rcases List.mem_cons.1 hb with h | h
      · omega
      · have := hFn b h; omega
  | succ m ih =>
    intro n R cr row w hnm hw0 hrl hR
    have HIH := Lib.hid ih
    clear ih
    have hnc : ((n + 1 : Nat) : Int) = (n : Int) + 1 := by omega
    have hlt0 : n < q.2.1.length := by omega
    have hfit := HQ.out.fit _ (List.getElem_mem hlt0)
    have hvars := HQ.out.vars _ (List.getElem_mem hlt0)
    have hds : q.2.1.drop n = q.2.1[n] :: q.2.1.drop (n + 1) := List.drop_eq_getElem_cons hlt0
    have HWL := Lib.hid (fun X => walkL_len (d := d) (ats := q.2.1.drop (n + 1)) (row := X) (fun a ha => ((atFit_some (HQ.out.fit a (List.mem_of_mem_drop ha))).2.1).cnt))
    have HW0 := Lib.hid (walkL_len (d := d) (ats := q.2.1.drop n) (row := row) (fun a ha => ((atFit_some (HQ.out.fit a (List.mem_of_mem_drop ha))).2.1).cnt))
    have hpow : ∀ k ≤ 4, 16 ^ k ≤ 65536 := fun k hk => Nat.le_trans (Nat.pow_le_pow_right (by omega) hk) (by decide)
    have HW9 := Lib.hid (fun X => Nat.le_trans (HWL.out X) (hpow _ (by rw [List.length_drop]; omega)))
    have HW8 := Lib.hid (Nat.le_trans HW0.out (hpow _ (by rw [List.length_drop]; omega)))
    have HAT := Lib.hid (fun (w' : World) (h : ∃ y, w' = ext W0 y) => (h3.toExt h).atA hlt0)
    obtain ⟨x, hx⟩ : ∃ x, q.2.1[n] = x := ⟨_, rfl⟩
    have hw9 := look_w HD.out (atFit_get (hx ▸ hfit))
    rw [hx] at hfit hvars hds HAT
    have hT := atFit_some hfit
    have hrb := rowsB_iff.1 hT.2.1.rel
    have hcnt := hT.2.1.cnt
    have har := hT.2.2
    have hoo := atFit_get hfit
    obtain ⟨⟨ar, rows⟩, hr9⟩ : ∃ r, relOf d x = r := ⟨_, rfl⟩
    rw [hr9] at hoo hrb hcnt har hw9
    simp only at har hcnt hrb hw9
    subst har
    have HWK := Lib.hid (show walkL d (q.2.1.drop n) row = rows.flatMap (walk1 d (q.2.1.drop (n + 1)) x.2 row) by rw [hds, walk_cons, hr9])
    have HWR := Lib.hid hw9.2
    have HRW := Lib.hid (fun y (hy : y ∈ rows) => show y.length = x.2.length by have := (hrb.2.2.2.1 y hy).1; omega)
    have HVS := Lib.hid hvars
    obtain ⟨ats, hats⟩ : ∃ l, q.2.1.drop (n + 1) = l := ⟨_, rfl⟩
    have HATS := Lib.hid hats
    rw [hats] at HWK HW9
    obtain ⟨o, ho⟩ : ∃ o, o = some ((x.2.length : Int), rows) := ⟨_, rfl⟩
    rw [← ho] at hoo
    have HO := Lib.hid hoo
    have HOR := Lib.hid ho
    have hbe : ((n : Int) == (q.2.1.length : Int)) = false := by simp; omega
    have hrl2 : row.length ≤ 2000000000 := by have := HNR.out; omega
    have HRL := Lib.hid hrl
    have hnr1 : 1 ≤ nr := by have := HNR.out; omega
    have hnr5 : nr ≤ 5 := by have := HNR.out; omega
    clear hx hfit hds hT hrb hr9 hoo ho hats hpow hvars HWL HW0 hw9 hrl
    go_enter Try.func103, Try.ntmps103
    go_upto_region 1 with fail
    refine wp_name ?_
    intro W hW
    have xW : ∃ y, W = ext w y := by rw [hW.out]; exact (by refine x'z ?_; repeat (with_reducible (first | exact x'a _ _ | exact x'b _ | exact x'c (by assumption) | refine x'd ?_ (by assumption) | refine x'e ?_ _ | refine x'f ?_ _ | refine x'g ?_ | refine x'h ?_ ?_ _ | refine x'i ?_ _ | refine x'j ?_ | refine x'k ?_ _ | refine x'l ?_ _ _ | refine x'm ?_ | assumption | (refine x'n ?_; omega) | omega)))
    have PW : BoxAt W w.heap.size #[.slice A d.length c] := by rw [hW.out]; exact (by repeat (with_reducible (first | assumption | exact BoxAt.new _ _ _ | apply BoxAt.set10 | apply BoxAt.set2 | refine BoxAt.set2' ?_ (by omega) | apply BoxAt.setP0 | apply BoxAt.setP1 | refine BoxAt.setO ?_ (by omega) | refine BoxAt.alloc ?_ _ | refine BoxAt.drew ?_ | refine BoxAt.toExt ?_ (by assumption))))
    have QW : BoxAt W (w.heap.size + 1) #[.int .i64 q.1, .slice B q.2.1.length e, .slice C q.2.2.length g] := by
      rw [hW.out]
      simpa using BoxAt.new (w.alloc (.cells #[.slice A d.length c] 29)) #[.int .i64 q.1, .slice B q.2.1.length e, .slice C q.2.2.length g] 55
    obtain ⟨lq, q0, q1, q2, fq⟩ := box3 QW
    clear hW
    go_upto_region 4 with fail
    refine wp_name ?_
    intro WC hWC
    have xC : ∃ y, WC = ext W y := by rw [hWC.out]; exact (by refine x'z ?_; repeat (with_reducible (first | exact x'a _ _ | exact x'b _ | exact x'c (by assumption) | refine x'd ?_ (by assumption) | refine x'e ?_ _ | refine x'f ?_ _ | refine x'g ?_ | refine x'h ?_ ?_ _ | refine x'i ?_ _ | refine x'j ?_ | refine x'k ?_ _ | refine x'l ?_ _ _ | refine x'm ?_ | assumption | (refine x'n ?_; omega) | omega)))
    have hE0 : SV 48 1 sRow WC (.slice (some ⟨W.heap.size, 0, none⟩) 0 0) [] [W.heap.size] := by rw [hWC.out]; exact SV.empty W
    have xwC := trans_ext xW xC
    have hyw := trans_ext hw0 xwC
    have PC := PW.toExt xC
    have QC := QW.toExt xC
    obtain ⟨lq1, q10, q11, q12, fq1⟩ := box3 QC
    obtain ⟨lp1, p10, fp1⟩ := bx1 PC
    obtain ⟨ba, oa, Av, cv, hBa, hba0, hca0, hca10, hvv0⟩ := HAT.out w hw0
    subst hBa
    have hba := ltW xwC hba0
    have hca := cellW xwC hba0 hca0
    have hca1 := cellW xwC hba0 hca10
    have HCA := Lib.hid hca10
    have hzW := size_of_ext xW
    have hpW := PW.1
    have hqW := QW.1
    have hWC1 : W.heap.size < WC.heap.size := hE0.lt _ (by simp)
    clear hWC lq q0 q1 q2 fq PW QW
    go_cut [10, 11] (CutW o WC)
    case first =>
      go_region_held3 (fun w' => (∀ a : Addr, a.block < WC.heap.size → w'.cell? a = WC.cell? a) ∧ ∃ y, w' = ext WC y) (first | exact heldE (by refine x'z ?_; repeat (with_reducible (first | exact x'a _ _ | exact x'b _ | exact x'c (by assumption) | refine x'd ?_ (by assumption) | refine x'e ?_ _ | refine x'f ?_ _ | refine x'g ?_ | refine x'h ?_ ?_ _ | refine x'i ?_ _ | refine x'j ?_ | refine x'k ?_ _ | refine x'l ?_ _ _ | refine x'm ?_ | assumption | (refine x'n ?_; omega) | omega)))) ((go_at_call 71; refine (specLookupRelation_any HD.out (h1.toExt (trans_ext hyw (by refine x'z ?_; repeat (with_reducible (first | exact x'a _ _ | exact x'b _ | exact x'c (by assumption) | refine x'd ?_ (by assumption) | refine x'e ?_ _ | refine x'f ?_ _ | refine x'g ?_ | refine x'h ?_ ?_ _ | refine x'i ?_ _ | refine x'j ?_ | refine x'k ?_ _ | refine x'l ?_ _ _ | refine x'm ?_ | assumption | (refine x'n ?_; omega) | omega)))))).mono ?_; rw [HO.out]; rintro e w3 ⟨u0, u1, F3, rfl, hx3, hS3, hN3, hF3⟩; obtain ⟨A3, c3, rfl, rfl, hI3⟩ := sRel_form hS3; (first | (have L3 : BoxAt w3 WC.heap.size #[.int .i64 0, .slice none 0 0] := BoxAt.toExt (BoxAt.new WC _ _) hx3; obtain ⟨z1, z2, z3, z4⟩ := bx2 L3) | (have L3 : BoxAt w3 WC.heap.size #[.int .i64 0, .slice none 0 0] := BoxAt.toExt (BoxAt.new WC.drew _ _) hx3; obtain ⟨z1, z2, z3, z4⟩ := bx2 L3) | (have L3 : BoxAt w3 WC.heap.size #[.int .i64 0, .slice none 0 0] := BoxAt.toExt (BoxAt.new WC _ _).drew hx3; obtain ⟨z1, z2, z3, z4⟩ := bx2 L3) | skip)))
      all_goals
        go_wp2_with fail
        go_meet
        have hz3 := size_of_ext hx3
        (first | simp only [World.size_alloc, World.drew] at hz3 hF3 | simp only [World.drew] at hz3 hF3)
        first
          | exact ⟨w3.heap.size, A3, c3, F3, rfl, rfl, BoxAt.new _ _ _, OD.toExt hI3 (alloc_ext _ _), fun x hx => by have := hF3 x hx; omega, by omega, (by refine x'z ?_; repeat (with_reducible (first | exact x'a _ _ | exact x'b _ | exact x'c (by assumption) | refine x'd ?_ (by assumption) | refine x'e ?_ _ | refine x'f ?_ _ | refine x'g ?_ | refine x'h ?_ ?_ _ | refine x'i ?_ _ | refine x'j ?_ | refine x'k ?_ _ | refine x'l ?_ _ _ | refine x'm ?_ | assumption | (refine x'n ?_; omega) | omega)))⟩
          | exact ⟨WC.heap.size, A3, c3, F3, rfl, rfl, (by repeat (with_reducible (first | assumption | exact BoxAt.new _ _ _ | apply BoxAt.set2 | refine BoxAt.set2' ?_ (by omega) | apply BoxAt.setP0 | apply BoxAt.setP1 | refine BoxAt.setO ?_ (by omega) | refine BoxAt.alloc ?_ _ | refine BoxAt.drew ?_ | refine BoxAt.toExt ?_ (by assumption)))), OD.chg (G := [WC.heap.size]) hI3 (by repeat (with_reducible (first | exact Chg.refl _ _ | refine Chg.trans0 ?_ (by assumption) | refine Chg.extS ?_ _ | refine Chg.alloc ?_ _ | refine Chg.drew ?_ | refine Chg.setCell ?_ (.inl (by simp)) _))) (fun x hx hm => by have := hF3 x hx; rw [List.mem_singleton.1 hm] at this; omega), fun x hx => by have := hF3 x hx; omega, by omega, (by refine x'z ?_; repeat (with_reducible (first | exact x'a _ _ | exact x'b _ | exact x'c (by assumption) | refine x'd ?_ (by assumption) | refine x'e ?_ _ | refine x'f ?_ _ | refine x'g ?_ | refine x'h ?_ ?_ _ | refine x'i ?_ _ | refine x'j ?_ | refine x'k ?_ _ | refine x'l ?_ _ _ | refine x'm ?_ | assumption | (refine x'n ?_; omega) | omega)))⟩
    obtain ⟨bX, A3, c3, F3, rfl, rfl, BX, hvX, hF3, hbX, hxX⟩ := hcut
    obtain ⟨w4, rfl⟩ : ∃ W, W = wc := ⟨_, rfl⟩
    obtain rfl := HOR.out
    simp only [Option.getD_some, Option.isSome_some] at BX hvX ⊢
    have P4 := PC.toExt hxX
    have Q4 := QC.toExt hxX
    have X4 := BX
    have xw4 := trans_ext xwC hxX
    have hE4 := hE0.toExt hxX
    have hz4 := size_of_ext xw4
    have hzX := size_of_ext hxX
    have HF3 := Lib.hid hF3
    have HVX := Lib.hid hvX
    clear lq1 q10 q11 q12 fq1 lp1 p10 fp1 PC QC hca hca1 hba hca0 hca10 BX hE0 hF3 hvX
    go_wp2_with fail
    go_loopw [9, 12] (fun v i wr => ∃ (k : Nat) (F : List Nat), i = .int .i64 k ∧ k ≤ rows.length ∧ SV 48 1 sRow wr v ((rows.take k).flatMap (walk1 d ats x.2 row)) F ∧ Hid F.Nodup ∧ Hid (∀ y ∈ F, y = W.heap.size ∨ w4.heap.size ≤ y) ∧ Chg [W.heap.size] w4 wr) (fun _ i _ => rows.length - (intOf i).toNat)
    case atStart => exact ⟨0, _, rfl, by omega, by simpa using hE4, Lib.hid (by simp), Lib.hid (by simp), Chg.refl _ _⟩
    case round =>
      as_aux_lemma =>
      obtain ⟨k, F, rfl, hk, hS, HN, HF, hC⟩ := hrel
      have hxw : ∃ y, wr = ext w y := hC.isExt xw4 (by simp; omega)
      have X5 := X4.chg hC (by simp; omega)
      have P5 := P4.chg hC (by simp; omega)
      have Q5 := Q4.chg hC (by simp; omega)
      obtain ⟨lx5, x50, x51, fx5⟩ := bx2 X5
      by_cases hlt : k < rows.length
      · have hrl := HRW.out _ (List.getElem_mem hlt)
        have HX9 : Hid (x.2.length ≤ 1000000000) := Lib.hid (hrl ▸ HWR.out _ (List.getElem_mem hlt))
        have hst := flat_step (f := walk1 d ats x.2 row) hlt
        have hbd := flat_take_len (f := walk1 d ats x.2 row) (l := rows) (k := k + 1)
        rw [← HWK.out] at hbd
        have hbd2 := Nat.le_trans hbd HW8.out
        have hvT := (vII_get (sII_v _ _ _ (OD.chg (G := [W.heap.size]) HVX.out hC (fun b hb h => by have := HF3.out b hb; rw [List.mem_singleton.1 h] at this; omega)))).2
        obtain ⟨br, orr, A5, c5, rfl, hbr, hcr, hvr⟩ := hvT.atV hlt
        obtain ⟨r, hr9⟩ : ∃ r, rows[k] = r := ⟨_, rfl⟩
        rw [hr9] at hrl hst hcr hvr
        obtain ⟨fl, hfl⟩ : ∃ l, (rows.take k).flatMap (walk1 d ats x.2 row) = l := ⟨_, rfl⟩
        rw [hfl] at hst hS
        have HST := Lib.hid hst
        have HBD := Lib.hid hbd2
        have HS := Lib.hid hS
        have HSlt := Lib.hid hS.lt
        have HLR := Lib.hid hrl
        have HCR := Lib.hid hcr
        have hbr0 := hbr
        have hE3 := SV.empty (α := Int) (te := 3) (size := 1) (E := sI) wr
        have hRr := hR.toExt (trans_ext hxw (alloc_ext wr (.cells #[] 3)))
        have HRN := Lib.hid (show row ≠ [] by intro h; have := HRL.out; rw [h] at this; simp at this; omega)
        clear hr9 hfl hst hbd hbd2 hS hrl hvT hcr
        obtain ⟨wo, rfl⟩ : ∃ wo : World, wo = wr := ⟨_, rfl⟩
        go_wp2_with (at_builtin; refine wpList_appV (E := sI) (V := vI) (es := row) rfl _ _ _ rfl tI rfl hE3 rfl HRL.out.symm hRr vI_s vI_1 (by have := HRL.out; simp; omega) (by omega) ?_; intro v' w' F' hS' hC' hF'; rw [List.nil_append] at hS'; obtain ⟨g, c6, rfl, hgF, _, _⟩ := hS'.block HRN.out; rw [HRL.out] at hS' ⊢)
        have hx6 : ∃ y, w' = ext wo y := hC'.isExt (alloc_ext _ _) (by simp)
        have hgo : wo.heap.size ≤ g := by
          rcases hF' g hgF with h | h
          · simp at h; omega
          · simp at h; omega
        have HFo : Hid (∀ b ∈ F', wo.heap.size ≤ b) := Lib.hid (fun b hb => by
          rcases hF' b hb with h | h
          · simp at h; omega
          · simp at h; omega)
        clear hF' hgF hC' hE3 hRr lx5 x50 x51 fx5 hbr
        go_loopw [14, 15] (fun f i wq => ∃ (j : Nat) (X : List Int) (t : Bool), i = .int .i64 j ∧ j ≤ x.2.length ∧ f = .bool t ∧ X.length = nr ∧ SV 3 1 sI wq (.slice (some ⟨g, 0, none⟩) nr c6) X F' ∧ Hid (fitX row x.2 r = if t = true then fitX X (x.2.drop j) (r.drop j) else none) ∧ Chg [g] w' wq) (fun _ i _ => x.2.length - (intOf i).toNat)
        case atStart => exact ⟨0, row, true, rfl, by omega, rfl, HRL.out, hS', Lib.hid (by simp), Chg.refl _ _⟩
        case round =>
          as_aux_lemma =>
          obtain ⟨j, X, t, rfl, hj, rfl, hXL, hSX, HT, hCq⟩ := hrel
          have HXL := Lib.hid hXL
          have HSX := Lib.hid hSX
          have hyq : ∃ y, wr = ext wo y := hCq.isExt hx6 (by simpa using hgo)
          have hxq := trans_ext hxw hyq
          obtain ⟨lx6, x60, x61, fx6⟩ := bx2 (X5.toExt hyq)
          obtain ⟨lp6, p60, fp6⟩ := bx1 (P5.toExt hyq)
          obtain ⟨lq6, q60, q61, q62, fq6⟩ := box3 (Q5.toExt hyq)
          have hSo := HS.out.toExt hyq
          have hvX := hSX.toView sI_v
          clear hXL hSX
          by_cases hlt2 : j < x.2.length
          · cases t with
            | false =>
              have HK := Lib.hid (show (rows.take (k + 1)).flatMap (walk1 d ats x.2 row) = fl by rw [HST.out, walk1_none (by rw [HT.out]; rfl), List.append_nil])
              go_wp2
              exact ⟨⟨k + 1, F, by go_num, by omega, by rw [HK.out]; exact hSo, HN, HF, hC.trans0 hyq⟩, by simp [intOf]; omega⟩
            | true =>
              obtain ⟨bv, ov, rfl, hbv, hcv⟩ := (hvv0.toExt hxq).atI' (n := j) hlt2
              have hvb := HVS.out _ (List.getElem_mem hlt2)
              have ht := HT.out
              rw [if_pos rfl, fitX_step hlt2 (by rw [HLR.out]; exact hlt2)] at ht
              obtain ⟨bz, oz, rfl, hbz, hcz⟩ := (hvr.toExt hyq).atI' (n := j) (by rw [HLR.out]; exact hlt2)
              have hjl : (j : Int) < (r.length : Int) := by rw [HLR.out]; omega
              rw [← getDl x.2 0 hlt2] at hvb
              obtain ⟨v, hv⟩ : ∃ v, x.2.getD j 0 = v := ⟨_, rfl⟩
              rw [hv] at hcv hvb ht
              obtain ⟨m, rfl⟩ := Int.eq_ofNat_of_zero_le hvb.1
              rw [Int.toNat_natCast] at ht
              have hmn : m < nr := by have := HNR.out; omega
              obtain ⟨_, _, e9, _, hcx⟩ := hvX.atI' (n := m) (by rw [HXL.out]; exact hmn)
              injection e9 with e9
              injection e9 with e9 e10 _
              subst e9 e10
              rw [Nat.zero_add] at hcx
              obtain ⟨z, hz9⟩ : ∃ z, r.getD j 0 = z := ⟨_, rfl⟩
              obtain ⟨u, hu⟩ : ∃ u, X.getD m 0 = u := ⟨_, rfl⟩
              rw [hz9] at hcz ht
              rw [hu] at hcx ht
              have hcr := cellW hyq hbr0 HCR.out
              have hbr := ltW hyq hbr0
              have hcaq := cellW hxq hba0 HCA.out
              have hbaq := ltW hxq hba0
              have HTT := Lib.hid ht
              have hg6 := HSX.out.cell HXL.out (j := 0) (by omega)
              obtain ⟨_, _, hg6⟩ := hg6
              clear hv hvb ht hz9 hu HT
              go_upto_region 14 with fail
              go_cut [14] (fun vb wx => ∃ tt : Bool, vb = .bool tt ∧ Hid (fitX row x.2 r = if tt = true then fitX (X.set m z) (x.2.drop (j + 1)) (r.drop (j + 1)) else none) ∧ ∃ y, wx = ext wr y)
              case first =>
                by_cases hu1 : u = -1
                · have hbe : (u == -1) = true := by simpa using hu1
                  have HT2 := Lib.hid (show fitX row x.2 r = if true = true then fitX (X.set m z) (x.2.drop (j + 1)) (r.drop (j + 1)) else none by rw [HTT.out, if_pos (.inl hu1), if_pos rfl])
                  clear hu1
                  refine wp_region_ext (by kernel_rfl) (by kernel_rfl) ?_
                  repeat (go_big_quiet_step (fail))
                  refine wpQuiet_nil ?_
                  rintro _ ⟨zz, rfl⟩
                  go_wp2_with fail
                  go_meet
                  exact ⟨true, rfl, HT2, zz, rfl⟩
                · have hbe : (u == -1) = false := by simpa using hu1
                  by_cases hu2 : u = z
                  · have hbe2 : (u == z) = true := by simpa using hu2
                    have HT2 := Lib.hid (show fitX row x.2 r = if true = true then fitX (X.set m z) (x.2.drop (j + 1)) (r.drop (j + 1)) else none by rw [HTT.out, if_pos (.inr hu2), if_pos rfl])
                    clear hu1 hu2
                    refine wp_region_ext (by kernel_rfl) (by kernel_rfl) ?_
                    repeat (go_big_quiet_step (fail))
                    refine wpQuiet_nil ?_
                    rintro _ ⟨zz, rfl⟩
                    go_wp2_with fail
                    go_meet
                    exact ⟨true, rfl, HT2, zz, rfl⟩
                  · have hbe2 : (u == z) = false := by simpa using hu2
                    have HT2 := Lib.hid (show fitX row x.2 r = if false = true then fitX (X.set m z) (x.2.drop (j + 1)) (r.drop (j + 1)) else none by rw [HTT.out, if_neg (by rintro (h | h); exact hu1 h; exact hu2 h), if_neg (by simp)])
                    clear hu1 hu2
                    refine wp_region_ext (by kernel_rfl) (by kernel_rfl) ?_
                    repeat (go_big_quiet_step (fail))
                    refine wpQuiet_nil ?_
                    rintro _ ⟨zz, rfl⟩
                    go_wp2_with fail
                    go_meet
                    exact ⟨false, rfl, HT2, zz, rfl⟩
              obtain ⟨tt, rfl, HT2, hxz⟩ := hcut
              obtain ⟨wz, rfl⟩ : ∃ W, W = wc := ⟨_, rfl⟩
              have hyz := trans_ext hyq hxz
              obtain ⟨lx7, x70, x71, fx7⟩ := bx2 (X5.toExt hyz)
              have hc7 := cellW hyz hbr0 HCR.out
              have hb7 := ltW hyz hbr0
              have hc8 := cellW hxz hbz hcz
              have hb8 := ltW hxz hbz
              have hS7 := HSX.out.toExt hxz
              have hcell := hS7.cell HXL.out (j := m) (by omega)
              obtain ⟨⟨u9, hu9⟩, hf9, hg9⟩ := hcell
              obtain ⟨s1, s2⟩ := hS7.set1 HXL.out (k := m) (by omega) (u := .int .i64 z) (d := z) (fun _ => ⟨rfl, rfl⟩)
              have HS1 := Lib.hid s1
              have HC1 := Lib.hid ((hCq.trans0 hxz).trans s2 (fun y hy => .inl hy))
              have hjb : x.2.length ≤ 1000000000 := HX9.out
              clear s1 s2 hS7 lx6 x60 x61 fx6 lp6 p60 fp6 lq6 q60 q61 q62 fq6 hcx hcr hbr hcaq hbaq hg6
              go_wp2_with fail
              exact ⟨⟨j + 1, X.set m z, tt, by go_num, by omega, rfl, by rw [List.length_set]; exact HXL.out, HS1.out, HT2, HC1.out⟩, by simp [intOf]; omega⟩
          · cases t with
            | false =>
              have HK := Lib.hid (show (rows.take (k + 1)).flatMap (walk1 d ats x.2 row) = fl by rw [HST.out, walk1_none (by rw [HT.out]; rfl), List.append_nil])
              go_wp2
              exact ⟨⟨k + 1, F, by go_num, by omega, by rw [HK.out]; exact hSo, HN, HF, hC.trans0 hyq⟩, by simp [intOf]; omega⟩
            | true =>
              have hfx : fitX row x.2 r = some X := by rw [HT.out, if_pos rfl, fitX_end (by omega)]
              obtain ⟨l9, hl9⟩ : ∃ l, walkL d ats X = l := ⟨_, rfl⟩
              have hk9 : (rows.take (k + 1)).flatMap (walk1 d ats x.2 row) = fl ++ l9 := by rw [HST.out, walk1_some hfx, hl9]
              have hlen : fl.length + l9.length ≤ 2000000000 := by have := HBD.out; rw [hk9, List.length_append] at this; omega
              have HK := Lib.hid hk9
              have HL9 := Lib.hid (show walkL d (q.2.1.drop (n + 1)) X = l9 by rw [HATS.out]; exact hl9)
              have hw0q := trans_ext hw0 hxq
              have HCC := Lib.hid (hC.trans0 hyq)
              have hFw : Hid (∀ b ∈ F, b < wr.heap.size) := Lib.hid (fun b hb => Nat.lt_of_lt_of_le (HSlt.out b hb) (size_of_ext hyq))
              have hzq := size_of_ext hyq
              have hzC := hC.size
              clear hfx hl9 hk9 HT
              go_wp2_with (first
                | (go_at_call 103; refine (HIH.out (n + 1) _ c6 X wr (by omega) hw0q HXL.out hvX).mono ?_; rintro e w9 ⟨A9, c9, F9, rfl, hx9, hS9, hN9, hF9⟩; rw [HL9.out] at hS9 ⊢; obtain ⟨G9, hL9, hN99, hG9⟩ := hS9.whole hN9; have hN3 := nodup_more HN.out hN99 hFw.out (fun b hb => hF9 b (hG9 b hb)))
                | (at_builtin; refine wpList_appP (E := sRow) rfl _ _ _ rfl tIIr rfl (hSo.toExt hx9) HN.out rfl rfl hL9 hN3 hlen (by omega) ?_; intro v2 w2 F2 hS2 hC2 hN2 hF2))
              refine ⟨⟨k + 1, F2, by go_num, by omega, by rw [HK.out]; exact hS2, Lib.hid hN2, Lib.hid (fun b hb => ?_), (HCC.out.trans0 hx9).trans hC2 (fun b hb => ?_)⟩, by simp [intOf]; omega⟩
              · rcases hF2 b hb with h | h | h
                · exact HF.out b h
                · have := hF9 b (hG9 b h); omega
                · have := size_of_ext hx9; omega
              · rcases HF.out b hb with h | h
                · exact .inl (by simp [h])
                · exact .inr h
      · obtain rfl : k = rows.length := by omega
        rw [List.take_of_length_le (Nat.le_refl _)] at hS
        go_wp2
        go_ret
        refine walkP_mk HWK.out rfl hxw hS HN.out (fun b hb => ?_)
        rcases HF.out b hb with h | h
        · omega
        · omega
end Go.Proofs.Ytfigcfajkilhiaa
