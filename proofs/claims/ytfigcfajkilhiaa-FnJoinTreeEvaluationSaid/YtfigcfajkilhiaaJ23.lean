/- Contracts of functions that the statement reaches. -/
import Derived.Test.YtfigcfajkilhiaaJ16
namespace Go.Proofs.Ytfigcfajkilhiaa
open Go.RowKit
theorem sAt_mk {w : World} {s : ByteArray} {xs : List Int} {v : Value} {F : List Nat} (h : SV 3 1 sI w v xs F) : sAt w [.string s, v] (s, xs) F :=
  ⟨[.string s], [v], [], F, rfl, rfl, ⟨rfl, rfl⟩, ⟨v, rfl, h⟩, rfl⟩
theorem sQ_get {w : World} {v0 v1 v2 : Value} {d : Qd} {F : List Nat} (h : sQ w [v0, v1, v2] d F) : ∃ F1 F2, F = F1 ++ F2 ∧ v0 = .int .i64 d.1 ∧ sAts w [v1] d.2.1 F1 ∧ SV 3 1 sI w v2 d.2.2 F2 := by
  obtain ⟨c0, c1, F0, F1, e0, h0, ⟨h1, f1⟩, ⟨c2, c3, F2, F3, e1, h2, ⟨u1, rfl, h3⟩, ⟨u2, rfl, h4⟩, e5⟩, e6⟩ := h
  subst e1 h1 f1 e5
  simp only [List.cons_append, List.nil_append, List.cons.injEq, and_true] at e0
  obtain ⟨rfl, rfl, rfl⟩ := e0
  exact ⟨F2, F3, by simpa using e6, rfl, ⟨_, rfl, h3⟩, h4⟩
end Go.Proofs.Ytfigcfajkilhiaa
