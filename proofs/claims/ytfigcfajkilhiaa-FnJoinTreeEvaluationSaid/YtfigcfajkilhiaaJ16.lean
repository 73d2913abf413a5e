/- Contracts of functions that the statement reaches. -/
import Derived.Test.YtfigcfajkilhiaaJ14
namespace Go.Proofs.Ytfigcfajkilhiaa
open Go.RowKit
abbrev Qd := Int × (List At × List Int)
abbrev vQ : VE Qd := vP 1 vI (vP 1 vAts (vSl 1 vI))
abbrev sQ : SE Qd := sP 1 sI (sP 1 sAts (sSl 3 1 sI))
theorem sQ_v {w : World} (c : List Value) (d : Qd) (F : List Nat) (h : sQ w c d F) : vQ w c d := sP_v sI_v (sP_v sAts_v (sSl_v sI_v)) c d F h
def BQ (d : Qd) : Prop := I64 d.1 ∧ BAts d.2.1 ∧ d.2.2.length ≤ 1048576
def WQ (d : Qd) : Prop := I64 d.1 ∧ (d.2.1.length ≤ 4194304 ∧ ∀ x ∈ d.2.1, x.1.size ≤ 4194304 ∧ x.2.length ≤ 4194304) ∧ d.2.2.length ≤ 4194304
theorem BQ.w {d : Qd} (h : BQ d) : WQ d := ⟨h.1, ⟨by have := h.2.1.1; omega, fun x hx => by have := h.2.1.each x hx; omega⟩, by have := h.2.2; omega⟩
theorem vQ_shape {w : World} {c : List Value} {d : Qd} (h : vQ w c d) : ∃ A a B b, c = [.int .i64 d.1, .slice A d.2.1.length a, .slice B d.2.2.length b] := by
  obtain ⟨c0, c1, e0, h0, h1, c2, c3, e1, h2, ⟨A2, d2, rfl, k2⟩, A3, d3, rfl, k3⟩ := h
  simp only [vI] at h1
  subst e1 h1
  exact ⟨_, _, _, _, e0⟩
theorem vQ_get {w : World} {A B : Option Addr} {c e : Nat} {n m : Nat} {z : Int} {d : Qd} (h : vQ w [.int .i64 z, .slice A n c, .slice B m e] d) : vAts w [.slice A n c] d.2.1 ∧ RI w B d.2.2 ∧ d.2.2.length ≤ e := by
  obtain ⟨c0, c1, e0, h0, h1, c2, c3, e1, h2, ⟨A2, d2, rfl, k2⟩, A3, d3, rfl, k3⟩ := h
  simp only [vI] at h1
  subst e1 h1
  simp only [List.cons_append, List.nil_append, List.cons.injEq, Value.slice.injEq, and_true] at e0
  obtain ⟨q0, ⟨q1, q2, q3⟩, q4, q5, q6⟩ := e0
  subst q1 q2 q3 q4 q5 q6
  exact ⟨⟨_, _, rfl, k2⟩, k3, by omega⟩
theorem sQ_form {w : World} {v0 v1 v2 : Value} {d : Qd} {F : List Nat} (h : sQ w [v0, v1, v2] d F) : ∃ A c B e, v0 = .int .i64 d.1 ∧ v1 = .slice A d.2.1.length c ∧ v2 = .slice B d.2.2.length e := by
  obtain ⟨c0, c1, F0, F1, e0, h0, ⟨h1, _⟩, ⟨c2, c3, F2, F3, e1, h2, ⟨u1, rfl, h3⟩, ⟨u2, rfl, h4⟩, _⟩, _⟩ := h
  subst e1 h1
  simp only [List.cons_append, List.nil_append, List.cons.injEq, and_true] at e0
  obtain ⟨rfl, rfl, rfl⟩ := e0
  obtain ⟨A, c, rfl, _⟩ := h3.form
  obtain ⟨B, e, rfl, _⟩ := h4.form
  exact ⟨A, c, B, e, rfl, rfl, rfl⟩
end Go.Proofs.Ytfigcfajkilhiaa
