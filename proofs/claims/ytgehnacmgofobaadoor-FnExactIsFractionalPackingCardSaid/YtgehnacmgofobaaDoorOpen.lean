/- From the reading of an argument to a view of it: numbers, strings, slices, structs, whatever their depth. -/
import Derived.Test.YtgehnacmgofobaaDoorOwn
import Derived.Deep.Slices
namespace Go.Proofs.YtgehnacmgofobaaDoor
open Go.ChangeShapes Go.WideShapes Go.ChangeAt Go.RowKit Go.Deep

def I64 (n : Int) : Prop := -9223372036854775808 ≤ n ∧ n ≤ 9223372036854775807

/-- whatever reads at type te is a view by E -/
def OpenE (P : Program) (te size : Nat) {α : Type} (E : VE α) (Q : α → Prop) : Prop :=
  P.cellsOf te = size ∧ ∀ (H : Type) (enc : TypeId × Value → H) (w : World) (base : Nat) (spare : Nat → Bool) (held : Bool) (n : Nat) (c : List Value) (y : DataW H × List MemPlace),
    DataW.trod enc P w base spare held n te c = some y → ∃ d, E w c d ∧ Q d

/-- a pair of fields -/
def vP {α β : Type} (s0 : Nat) (E0 : VE α) (E1 : VE β) : VE (α × β) := fun w c d => ∃ c0 c1, c = c0 ++ c1 ∧ c0.length = s0 ∧ E0 w c0 d.1 ∧ E1 w c1 d.2
def sP {α β : Type} (s0 : Nat) (E0 : SE α) (E1 : SE β) : SE (α × β) := fun w c d F => ∃ c0 c1 F0 F1, c = c0 ++ c1 ∧ c0.length = s0 ∧ E0 w c0 d.1 F0 ∧ E1 w c1 d.2 F1 ∧ F = F0 ++ F1
instance {α β : Type} (s0 : Nat) (E0 : VE α) (E1 : VE β) [VMono E0] [VMono E1] : VMono (vP s0 E0 E1) := ⟨fun ⟨c0, c1, h1, h2, h3, h4⟩ => ⟨c0, c1, h1, h2, VMono.ext h3, VMono.ext h4⟩⟩
instance {α β : Type} (s0 : Nat) (E0 : SE α) (E1 : SE β) [SMono E0] [SMono E1] : SMono (sP s0 E0 E1) :=
  ⟨fun ⟨c0, c1, F0, F1, _, _, h3, h4, h5⟩ b hb => by
    subst h5
    rcases List.mem_append.1 hb with h | h
    · exact SMono.lt h3 b h
    · exact SMono.lt h4 b h,
   fun ⟨c0, c1, F0, F1, h1, h2, h3, h4, h5⟩ hk => by
    subst h5
    exact ⟨c0, c1, F0, F1, h1, h2, SMono.keep h3 fun b hb => hk b (by simp [hb]), SMono.keep h4 fun b hb => hk b (by simp [hb]), rfl⟩⟩
theorem sP_v {α β : Type} {s0 : Nat} {E0 : SE α} {E1 : SE β} {V0 : VE α} {V1 : VE β} {w : World} (h0 : ∀ c d F, E0 w c d F → V0 w c d) (h1 : ∀ c d F, E1 w c d F → V1 w c d) (c : List Value) (d : α × β) (F : List Nat) (h : sP s0 E0 E1 w c d F) : vP s0 V0 V1 w c d := by
  obtain ⟨c0, c1, F0, F1, e1, e2, e3, e4, _⟩ := h
  exact ⟨c0, c1, e1, e2, h0 _ _ _ e3, h1 _ _ _ e4⟩

section
variable {P : Program}
theorem openInt {t : Nat} (ht : P.underlying t = some (.int .i64)) (hc : P.cellsOf t = 1) : OpenE P t 1 vI I64 := ⟨hc, fun H enc w base spare held n c y h => by
  obtain ⟨m, rfl, _, hw⟩ := DataW.trod_int ht h
  refine ⟨m, rfl, ?_⟩
  simp [Lit.wf, IntKind.min, IntKind.max, IntKind.signed, IntKind.bits] at hw
  exact ⟨by omega, by omega⟩⟩
theorem openStr {t : Nat} (ht : P.underlying t = some .string) (hc : P.cellsOf t = 1) : OpenE P t 1 vS (fun s => s.size ≤ maxLen) := ⟨hc, fun H enc w base spare held n c y h => by
  obtain ⟨s, rfl, _, hw⟩ := DataW.trod_string ht h
  exact ⟨s, rfl, hw⟩⟩
theorem addr_lit {a : Addr} {j : Nat} (hs : a.spot = none) : a.add j = ⟨a.block, a.off + j, none⟩ := by
  unfold Addr.add
  split
  · rename_i h; subst h; cases a; simp_all
  · rfl
theorem spot_of_cell {w : World} {a : Addr} {u : Value} (h : w.cell? a = some u) : a.spot = none := by
  unfold World.cell? at h
  split at h
  · cases hs : a.spot with
    | none => rfl
    | some _ => simp [hs] at h
  · simp at h
theorem openSl {α : Type} {t te size : Nat} {E : VE α} {Q : α → Prop} (ht : P.underlying t = some (.slice te)) (hc : P.cellsOf t = 1) (hz : 0 < size) (hO : OpenE P te size E Q) : OpenE P t 1 (vSl size E) (fun l => l.length ≤ maxLen ∧ ∀ x ∈ l, Q x) := ⟨hc, fun H enc w base spare held n c y h => by
  obtain ⟨hce, hO⟩ := hO
  rcases open_slice ht h with ⟨rfl, _⟩ | ⟨a, len, cap, m, n', D, Pl, rfl, hb, hl, hm, hmm, _, hx⟩
  · exact ⟨[], ⟨none, 0, rfl, RV.nil⟩, by simp [maxLen], by simp⟩
  · have hlm : len ≤ m := by rw [hmm]; split <;> omega
    have each : ∀ i, i < len → ∃ d, (∃ c : List Value, c.length = size ∧ (∀ j (hj : j < c.length), w.cell? ((a.add (i * size)).add j) = some c[j]) ∧ E w c d) ∧ Q d := fun i hi => by
      obtain ⟨cs', h1, h2⟩ := hx i (by omega)
      rw [hce] at h1
      obtain ⟨_, hcl, hat⟩ := World.cells?_some h1
      obtain ⟨d, hd, hq⟩ := hO _ _ _ _ _ _ _ _ _ h2
      exact ⟨d, ⟨cs', hcl, fun j hj => by rw [hat j (by omega)]; exact List.getElem?_eq_getElem hj, hd⟩, hq⟩
    obtain ⟨f, hf⟩ := choose_lt (α := Option α) (n := len) (p := fun i o => ∃ d, o = some d ∧ (∃ c : List Value, c.length = size ∧ (∀ j (hj : j < c.length), w.cell? ((a.add (i * size)).add j) = some c[j]) ∧ E w c d) ∧ Q d) (fun i hi => by
      obtain ⟨d, h1, h2⟩ := each i hi
      exact ⟨some d, d, rfl, h1, h2⟩)
    have hl2 : ∃ ds : List α, ds.length = len ∧ ∀ i (hi : i < ds.length), f i = some ds[i] := by
      have : ∀ k, k ≤ len → ∃ ds : List α, ds.length = k ∧ ∀ i (hi : i < ds.length), f i = some ds[i] := by
        intro k
        induction k with
        | zero => exact fun _ => ⟨[], rfl, fun i hi => by simp at hi⟩
        | succ k ih =>
          intro hk
          obtain ⟨ds, h1, h2⟩ := ih (by omega)
          obtain ⟨d, hd, _⟩ := hf k (by omega)
          refine ⟨ds ++ [d], by simp [h1], fun i hi => ?_⟩
          by_cases hik : i < ds.length
          · rw [List.getElem_append_left hik]; exact h2 i hik
          · have : i = k := by simp at hi; omega
            subst this
            rw [List.getElem_append_right (by omega)]
            simpa using hd
      exact this len (Nat.le_refl _)
    obtain ⟨ds, h1, h2⟩ := hl2
    have hd : ∀ i (hi : i < ds.length), (∃ c : List Value, c.length = size ∧ (∀ j (hj : j < c.length), w.cell? ((a.add (i * size)).add j) = some c[j]) ∧ E w c ds[i]) ∧ Q ds[i] := fun i hi => by
      obtain ⟨d, e1, e2⟩ := hf i (by omega)
      rw [h2 i hi] at e1
      injection e1 with e1
      rw [e1]; exact e2
    refine ⟨ds, ⟨some a, cap - len, by rw [h1, Nat.add_sub_cancel' (by omega)], fun hn => ?_⟩, by omega, fun x hx => ?_⟩
    · obtain ⟨⟨c, hc1, hc2, _⟩, _⟩ := hd 0 (List.length_pos_iff.2 hn)
      have hcell := hc2 0 (by omega)
      have hsp : a.spot = none := by
        have := spot_of_cell hcell
        simpa [Addr.add] using this
      have hlt := World.block_lt_of_cell? w _ hcell
      refine ⟨a.block, a.off, by cases a; simp_all, by simpa [Addr.add] using hlt, fun j hj => ?_⟩
      obtain ⟨⟨c, hc1, hc2, hc3⟩, _⟩ := hd j hj
      refine ⟨c, hc1, fun i hi => ?_, hc3⟩
      have := hc2 i hi
      rw [addr_lit (a := a) hsp, addr_lit rfl] at this
      exact this
    · obtain ⟨i, hi, rfl⟩ := List.getElem_of_mem hx
      exact (hd i hi).2⟩
theorem openStruct1 {α : Type} {t s0 : Nat} {f0 : Field} {E0 : VE α} {Q0 : α → Prop} (hs : P.underlying t = some (.struct #[f0])) (h0 : f0.offset = 0) (O0 : OpenE P f0.type s0 E0 Q0) (hc : P.cellsOf t = s0) : OpenE P t s0 E0 Q0 := ⟨hc, fun H enc w base spare held n c y h => by
  obtain ⟨xs, n', _, _, hcl, hxl, hf⟩ := DataW.trod_struct hs h
  have e0 := hf 0 f0 rfl
  rw [h0, List.drop_zero, O0.1, List.take_of_length_le (by omega)] at e0
  have hx : 0 < xs.length := by rw [hxl]; simp
  rw [List.getElem?_eq_getElem hx] at e0
  exact O0.2 _ _ _ _ _ _ _ _ _ e0⟩
theorem openStruct2 {α β : Type} {t s0 s1 : Nat} {f0 f1 : Field} {E0 : VE α} {Q0 : α → Prop} {E1 : VE β} {Q1 : β → Prop} (hs : P.underlying t = some (.struct #[f0, f1])) (h0 : f0.offset = 0) (h1 : f1.offset = s0) (O0 : OpenE P f0.type s0 E0 Q0) (O1 : OpenE P f1.type s1 E1 Q1) (hc : P.cellsOf t = s0 + s1) :
    OpenE P t (s0 + s1) (vP s0 E0 E1) (fun d => Q0 d.1 ∧ Q1 d.2) := ⟨hc, fun H enc w base spare held n c y h => by
  obtain ⟨xs, n', _, _, hcl, hxl, hf⟩ := DataW.trod_struct hs h
  have e0 := hf 0 f0 rfl
  have e1 := hf 1 f1 rfl
  rw [h0, List.drop_zero, O0.1] at e0
  rw [h1, O1.1, List.take_of_length_le (by simp; omega)] at e1
  have hx : xs.length = 2 := by rw [hxl]; rfl
  rw [List.getElem?_eq_getElem (by omega)] at e0 e1
  obtain ⟨d0, a0, q0⟩ := O0.2 _ _ _ _ _ _ _ _ _ e0
  obtain ⟨d1, a1, q1⟩ := O1.2 _ _ _ _ _ _ _ _ _ e1
  exact ⟨(d0, d1), ⟨_, _, (List.take_append_drop s0 c).symm, by simp; omega, a0, a1⟩, q0, q1⟩⟩
theorem openStruct3 {α β γ : Type} {t s0 s1 s2 : Nat} {f0 f1 f2 : Field} {E0 : VE α} {Q0 : α → Prop} {E1 : VE β} {Q1 : β → Prop} {E2 : VE γ} {Q2 : γ → Prop} (hs : P.underlying t = some (.struct #[f0, f1, f2])) (h0 : f0.offset = 0) (h1 : f1.offset = s0) (h2 : f2.offset = s0 + s1) (O0 : OpenE P f0.type s0 E0 Q0) (O1 : OpenE P f1.type s1 E1 Q1) (O2 : OpenE P f2.type s2 E2 Q2) (hc : P.cellsOf t = s0 + (s1 + s2)) :
    OpenE P t (s0 + (s1 + s2)) (vP s0 E0 (vP s1 E1 E2)) (fun d => Q0 d.1 ∧ Q1 d.2.1 ∧ Q2 d.2.2) := ⟨hc, fun H enc w base spare held n c y h => by
  obtain ⟨xs, n', _, _, hcl, hxl, hf⟩ := DataW.trod_struct hs h
  have e0 := hf 0 f0 rfl
  have e1 := hf 1 f1 rfl
  have e2 := hf 2 f2 rfl
  rw [h0, List.drop_zero, O0.1] at e0
  rw [h1, O1.1] at e1
  rw [h2, O2.1, List.take_of_length_le (by simp; omega)] at e2
  have hx : xs.length = 3 := by rw [hxl]; rfl
  rw [List.getElem?_eq_getElem (by omega)] at e0 e1 e2
  obtain ⟨d0, a0, q0⟩ := O0.2 _ _ _ _ _ _ _ _ _ e0
  obtain ⟨d1, a1, q1⟩ := O1.2 _ _ _ _ _ _ _ _ _ e1
  obtain ⟨d2, a2, q2⟩ := O2.2 _ _ _ _ _ _ _ _ _ e2
  refine ⟨(d0, d1, d2), ⟨c.take s0, c.drop s0, (List.take_append_drop s0 c).symm, by simp; omega, a0, (c.drop s0).take s1, c.drop (s0 + s1), ?_, by simp; omega, a1, a2⟩, q0, q1, q2⟩
  rw [← List.drop_drop, List.take_append_drop]⟩
theorem openArg {α : Type} {t size : Nat} {E : VE α} {Q : α → Prop} (hO : OpenE P t size E Q) {H : Type} {enc : TypeId × Value → H} {w : World} {base : Nat} {spare : Nat → Bool} {held : Bool} {v : Value} {d : DataW H} {p : List MemPlace} (h : DataW.Trod enc P w base spare held t v d p) : ∃ x, E w v.cells.toList x ∧ Q x := by
  obtain ⟨n, hn⟩ := h
  exact hO.2 _ _ _ _ _ _ _ _ _ hn
end

end Go.Proofs.YtgehnacmgofobaaDoor
