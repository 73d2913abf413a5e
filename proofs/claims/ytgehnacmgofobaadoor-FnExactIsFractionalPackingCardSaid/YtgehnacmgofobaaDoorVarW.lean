/- How a law's row follows from its walk where the walk reads one package variable of two numbers. -/
import Derived.Test.YtgehnacmgofobaaDoorWrap
import Derived.Test.YtgehnacmgofobaaDoorTypes
import Derived.Test.YtgehnacmgofobaaDoorCover3
import Derived.Test.YtgehnacmgofobaaDoorTie
import Derived.Test.YtgehnacmgofobaaDoorCards
import Derived.LaidMore
import Derived.OpenShut
import Derived.LaidHandle
import Derived.MakeChecks
import Derived.ChangeVars
import Derived.Carry
import Derived.SevenTiedAt
namespace Go.Proofs.YtgehnacmgofobaaDoor
open Go.ChangeShapes Go.WideShapes Go.ChangeAt Go.RowKit

theorem one_name : Tryd.prog.globalNamed "loop.example/g01917/impl.oneRational" = some 0 := by kernel_rfl
theorem one_type : (Tryd.prog.globals[0]?).map (·.type) = some 47 := by kernel_rfl
theorem one_cells : Tryd.prog.cellsOf 47 = 2 := by kernel_rfl
theorem int_cells : Tryd.prog.cellsOf 3 = 1 := by kernel_rfl
abbrev oneLaid : List (String × DataW Unit) := [("loop.example/g01917/impl.oneRational", Rows.laid_loop_example_g01917_impl_oneRational)]
theorem one_laid {W : World} (h : laidMetH Tryd.prog oneLaid W) : W.var? Tryd.prog "loop.example/g01917/impl.oneRational" = some #[.int .i64 1, .int .i64 1] := by
  rw [MakeChecks.laidMetH_plain _ _ _ (by kernel_rfl)] at h
  obtain ⟨ps, ⟨g0, t0, cs0, f0, p0, q0, hg0, ht0, hv0, hd0, _, _⟩, _, _⟩ := h
  obtain rfl := Option.some.inj (one_name.symm.trans hg0)
  obtain rfl := Option.some.inj (one_type.symm.trans ht0)
  obtain ⟨y0, y1, n, hx, hl, e0, e1⟩ := trod_struct2 Tryd.underlying47 hd0
  rw [hv0]
  obtain ⟨l⟩ := cs0
  simp only [one_cells] at hl
  match l, hl with
  | [a, b], _ =>
    obtain ⟨k0, c0, r0, _⟩ := DataW.trod_int Tryd.underlying3 e0
    obtain ⟨k1, c1, r1, _⟩ := DataW.trod_int Tryd.underlying3 e1
    simp only [int_cells] at c0 c1
    have c0' : a = .int .i64 k0 := by simpa using c0
    have c1' : b = .int .i64 k1 := by simpa using c1
    subst c0' c1' r0 r1
    simp [Rows.laid_loop_example_g01917_impl_oneRational] at hx
    obtain ⟨rfl, rfl⟩ := hx.1
    rfl
theorem one_at {W : World} (h : W.var? Tryd.prog "loop.example/g01917/impl.oneRational" = some #[.int .i64 1, .int .i64 1]) : OneAt W := by
  have c0 := World.var?_cell one_name h 0
  have c1 := World.var?_cell one_name h 1
  refine ⟨by simpa using c0, by simpa using c1, ?_⟩
  simp only [World.var?, one_name, Option.bind_some] at h
  split at h
  · rename_i hh
    exact (Array.getElem?_eq_some_iff.1 hh).1
  · cases h
theorem var_ext {P : Program} {W W' : World} {nm : String} {cs : Array Value} (h : W.var? P nm = some cs) (hx : ∃ y, W' = ext W y) : W'.var? P nm = some cs := by
  obtain ⟨y, rfl⟩ := hx
  unfold World.var? at h ⊢
  cases hg : P.globalNamed nm with
  | none => rw [hg] at h; simp at h
  | some g =>
    rw [hg] at h
    simp only [Option.bind_some] at h ⊢
    split at h
    · rename_i hh
      have hlt := (Array.getElem?_eq_some_iff.1 hh).1
      obtain ⟨_, _, _, _, hh5⟩ := below_ext W y
      have e := hh5 g hlt
      simp only [e, hh]
      exact h
    · cases h

section
variable {H : Type} {enc : TypeId × Value → H} {W W' : World}
/-- The post of a law's row that names the variable. -/
theorem law_postV (hl : laidOutB Tryd.prog = true) {f : Func} {s : ChangeSpec} {args : Array Value} {ds gs : List (DataW H)} {before : List MemPlace} {tb : TypeId}
    (hW : DataW.Whole enc Tryd.prog f.params.toList s.vars false W args.toList ds gs before) (hv : s.vars = ["loop.example/g01917/impl.oneRational"]) (hc : W.var? Tryd.prog "loop.example/g01917/impl.oneRational" = some #[.int .i64 1, .int .i64 1])
    (hfn : ∀ d, s.fn H (ds ++ [d]) = { results := [.lit (.bool true)], args := ds, vars := [d] })
    (hres : f.resultTypes = #[tb]) (ht : Tryd.prog.underlying tb = some .bool) (hread : (f.params.toList.all fun t => Tryd.prog.readableRec t && decide (t < Tryd.prog.types.size)) = true) (hx : ∃ y, W' = ext W y) :
    s.post enc Tryd.prog f false true false false W args (.bool true) W' := by
  have hb : Below W.heap.size W W' := by
    obtain ⟨y, rfl⟩ := hx
    exact below_ext W y
  have hlt : ∀ p ∈ before, p.block < W.heap.size := fun p hp => hW.lt p hp
  have hW2 := hW
  obtain ⟨p, q, hA, hV, rfl, hfz, hnd⟩ := hW2
  rw [hv] at hV
  obtain ⟨g, t, cs, fuel, d, p1, rfl, h1, h2, h3, h4, rfl⟩ := trodVars_one hV
  obtain rfl := Option.some.inj (one_name.symm.trans h1)
  obtain rfl := Option.some.inj (one_type.symm.trans h2)
  obtain rfl := Option.some.inj (hc.symm.trans h3)
  have hT : DataW.Trod enc Tryd.prog W 0 (fun _ => true) true 47 (.agg #[.int .i64 1, .int .i64 1]) d p1 := ⟨fuel, h4⟩
  obtain ⟨fuel', h4'⟩ := Below.trod hl (by kernel_rfl) (of_decide_eq_true (by kernel_rfl)) hT hb (fun x hx => hlt x (by simp [hx]))
  refine ⟨ds, [d], _, [], p, _, hW, ?_, ?_, ?_, World.keptBut_mono (fun x hx => ⟨hx, .inr (by rw [List.mem_append] at hx; exact hx)⟩) (hb.frame _), fun h => by cases h⟩
  · rw [hfn, hres]
    exact trodAll_mk1 ⟨1, by simp [DataW.trod, Value.cells, ht]⟩
  · rw [hfn]
    exact trodAll_keep hl hb hread hA (fun x hx => hlt x (by simp [hx])) (fun x hx => by simpa using hlt x (by simp [hx]))
  · rw [hfn, hv]
    exact trodVars_mk1 one_name one_type (var_ext hc hx) h4'
end
end Go.Proofs.YtgehnacmgofobaaDoor
