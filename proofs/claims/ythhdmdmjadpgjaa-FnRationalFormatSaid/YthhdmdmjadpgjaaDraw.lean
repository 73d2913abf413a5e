/- The reference's draws: the cursor over the code, one byte, a number below another. -/
import Derived.Test.YthhdmdmjadpgjaaBytes
import Derived.Test.YthhdmdmjadpgjaaBox3
import Derived.Test.YthhdmdmjadpgjaaRows
namespace Go.Proofs.Ythhdmdmjadpgjaa
open Go.RowKit

def lenR (v : Value) : Nat := match v with | .slice _ n _ => n | _ => 0
theorem RV.atUb {w : World} {A : Option Addr} {bs : List UInt8} {k : Nat} (h : RU w A bs) (hk : k < bs.length) : ∃ b o, A = some ⟨b, o, none⟩ ∧ b < w.heap.size ∧ w.cell? ⟨b, o + k, none⟩ = some (.int .u8 (bs[k].toNat : Int)) := by
  obtain ⟨b, o, h1, h2, c, hc, hr, he⟩ := h.get hk
  simp only [vU] at he
  subst he
  exact ⟨b, o, h1, h2, by simpa using hr 0 (by simp)⟩
/-- the cursor in block g; what lay in w0 is untouched -/
def Cur (w0 w : World) (g : Nat) : Prop := w0.heap.size ≤ g ∧ (∃ y, w = ext w0 y) ∧ ∃ (A : Option Addr) (c : Nat) (bs : List UInt8) (i : Nat) (h : Int), BoxAt w g #[.slice A bs.length c, .int .i64 i, .int .i64 h] ∧ RU w0 A bs ∧ bs.length ≤ 1048576 ∧ i ≤ bs.length
theorem Cur.toExt {w0 w w' : World} {g : Nat} (h : Cur w0 w g) (hx : ∃ y, w' = ext w y) : Cur w0 w' g := by
  obtain ⟨h1, h2, A, c, bs, i, h, hB, hR, hl, hi⟩ := h
  exact ⟨h1, trans_ext h2 hx, A, c, bs, i, h, hB.toExt hx, hR, hl, hi⟩
theorem Cur.chg {w0 w w' : World} {g : Nat} {F : List Nat} (h : Cur w0 w g) (hC : Chg F w w') (hg : g ∉ F) (hF : ∀ b ∈ F, w0.heap.size ≤ b) : Cur w0 w' g := by
  obtain ⟨h1, h2, A, c, bs, i, h, hB, hR, hl, hi⟩ := h
  exact ⟨h1, hC.isExt h2 hF, A, c, bs, i, h, hB.chg hC hg, hR, hl, hi⟩
theorem and255 (a : Int) : 0 ≤ bits .and .i64 a 255 ∧ bits .and .i64 a 255 ≤ 255 := by
  have h : (BitVec.ofInt IntKind.i64.bits a &&& BitVec.ofInt IntKind.i64.bits 255).toNat ≤ 255 := by
    rw [BitVec.toNat_and]
    exact Nat.le_trans Nat.and_le_right (by decide)
  unfold bits
  simp only
  obtain ⟨n, hn⟩ : ∃ n, (BitVec.ofInt IntKind.i64.bits a &&& BitVec.ofInt IntKind.i64.bits 255).toNat = n := ⟨_, rfl⟩
  rw [hn] at h ⊢
  rw [IntKind.wrap_i64]
  omega
set_option maxRecDepth 100000 in
set_option maxHeartbeats 1000000 in
theorem l1New_any {A : Option Addr} {c : Nat} {bs : List UInt8} {w : World} (hx : bs.length ≤ 1048576) (h1 : RU w A bs) :
    Calls Try.prog 20 #[.slice A bs.length c] w fun e w' => ∃ g, e = .returned (.pointer (some ⟨g, 0, none⟩)) ∧ Cur w w' g := by
  go_enter Try.func20, Try.ntmps20
  go_wp2
  go_loop [3, 4] (fun h i => ∃ (k : Nat) (hv : Int), i = .int .i64 k ∧ k ≤ bs.length ∧ h = .int .i64 hv) (fun _ i => bs.length - (intOf i).toNat)
  case atStart => exact ⟨0, _, rfl, by omega, rfl⟩
  case round =>
    obtain ⟨k, hv, rfl, hk, rfl⟩ := hrel
    by_cases hlt : k < bs.length
    · obtain ⟨b, o, rfl, hb, hc⟩ := h1.atUb hlt
      obtain ⟨u, hu⟩ : ∃ u : Int, (bs[k].toNat : Int) = u := ⟨_, rfl⟩
      rw [hu] at hc
      clear hu
      by_cases h4 : k < 4000
      · go_wp2
        exact ⟨⟨k + 1, _, by go_num, by omega, rfl⟩, by simp [intOf]; omega⟩
      · go_wp2
        go_ret
        exact ⟨w.heap.size, rfl, Nat.le_refl _, alloc_ext _ _, _, _, bs, 0, _, BoxAt.new _ _ _, h1, hx, by omega⟩
    · go_wp2
      go_ret
      exact ⟨w.heap.size, rfl, Nat.le_refl _, alloc_ext _ _, _, _, bs, 0, _, BoxAt.new _ _ _, h1, hx, by omega⟩
set_option maxRecDepth 100000 in
set_option maxHeartbeats 4000000 in
theorem l1Byte_any {g : Nat} {w0 w : World} (hc : Cur w0 w g) :
    Calls Try.prog 44 #[.pointer (some ⟨g, 0, none⟩)] w fun e w' => ∃ x : Int, e = .returned (.int .i64 x) ∧ 0 ≤ x ∧ x ≤ 255 ∧ Cur w0 w' g ∧ Chg [g] w w' := by
  obtain ⟨hg, hw, A, c, bs, i, h, hB, hR, hl, hi⟩ := hc
  obtain ⟨l0, k0, k1, k2, f0⟩ := box3 hB
  go_enter Try.func44, Try.ntmps44
  go_upto_region 2 with fail
  refine wp_name ?_
  intro w1 hw1
  obtain ⟨H, hB1⟩ : ∃ H : Int, BoxAt w1 g #[.slice A bs.length c, .int .i64 i, .int .i64 H] := ⟨_, by rw [hw1.out]; exact hB.set32⟩
  have hC1 : Chg [g] w w1 := by rw [hw1.out]; exact (Chg.refl [g] w).setCell (.inl (by simp)) _
  obtain ⟨l1, a0, a1, a2, f1⟩ := box3 hB1
  clear hw1 k0 k1 k2 f0
  go_wp2
  refine wp_region_ext (by kernel_rfl) (by kernel_rfl) ?_
  repeat (go_big_quiet_step (fail))
  refine wpQuiet_nil ?_
  rintro _ ⟨zz, rfl⟩
  obtain ⟨X, hX⟩ : ∃ X, bits .and .i64 (bits .xor .i64 (H / 8589934592) (H / 35184372088832)) 255 = X := ⟨_, rfl⟩
  have hXb := and255 (bits .xor .i64 (H / 8589934592) (H / 35184372088832))
  rw [hX] at hXb ⊢
  obtain ⟨hX0, hX1⟩ := hXb
  have hy2 : ∃ y, ext w1 zz = ext w1 y := ⟨_, rfl⟩
  obtain ⟨w2, hw2⟩ : ∃ w2, ext w1 zz = w2 := ⟨_, rfl⟩
  rw [hw2] at hy2 ⊢
  have hB2 := hB1.toExt hy2
  have hC2 := hC1.trans0 hy2
  obtain ⟨l2, b0, b1, b2, f2⟩ := box3 hB2
  clear hX hw2 l1 a0 a1 a2 f1 hB1 hC1 l0
  have hw2e : ∃ y, w2 = ext w0 y := hC2.isExt hw (by simpa using hg)
  by_cases hil : i < bs.length
  · obtain ⟨b, o, rfl, hb, hcb⟩ := (hR.toExt hw2e).atUb hil
    obtain ⟨u, hu⟩ : ∃ u : Int, (bs[i].toNat : Int) = u := ⟨_, rfl⟩
    have hub : 0 ≤ u ∧ u ≤ 255 := by rw [← hu]; have := bs[i].toNat_lt; omega
    rw [hu] at hcb
    obtain ⟨hu0, hu1⟩ := hub
    clear hu
    go_wp2
    refine wp_region_ext (by kernel_rfl) (by kernel_rfl) ?_
    repeat (go_big_quiet_step (fail))
    refine wpQuiet_nil ?_
    rintro _ ⟨zz2, rfl⟩
    have l3 := lt_ext (x := zz2) l2
    have l4 := lt_ext (x := zz2) hb
    go_wp2
    refine wp_region_ext (by kernel_rfl) (by kernel_rfl) ?_
    repeat (go_big_quiet_step (fail))
    refine wpQuiet_nil ?_
    rintro _ ⟨zz3, rfl⟩
    have hBf := (((hB2.toExt ⟨zz2, rfl⟩).toExt ⟨zz3, rfl⟩).set31 (u := .int .i64 ((i : Int) + 1)))
    have hCf : Chg [g] w ((ext (ext w2 zz2) zz3).setCell ⟨g, 1, none⟩ (.int .i64 ((i : Int) + 1))) := ((hC2.trans0 ⟨zz2, rfl⟩).trans0 ⟨zz3, rfl⟩).setCell (.inl (by simp)) _
    have HBf := Lib.hid hBf
    have HCf := Lib.hid hCf
    have HW := Lib.hid (hCf.isExt hw (by simpa using hg))
    clear hBf hCf
    have l5 := lt_ext (x := zz3) l3
    have l6 := lt_ext (x := zz3) l4
    go_wp2
    go_ret
    exact ⟨_, rfl, (and255 _).1, (and255 _).2, ⟨hg, HW.out, _, _, bs, i + 1, _, HBf.out, hR, hl, by omega⟩, HCf.out⟩
  · go_wp2
    refine wp_region_ext (by kernel_rfl) (by kernel_rfl) ?_
    repeat (go_big_quiet_step (fail))
    refine wpQuiet_nil ?_
    rintro _ ⟨zz2, rfl⟩
    go_wp2
    go_ret
    exact ⟨X, rfl, hX0, hX1, ⟨hg, trans_ext hw2e ⟨zz2, rfl⟩, _, _, bs, i, _, hB2.toExt ⟨zz2, rfl⟩, hR, hl, hi⟩, hC2.trans0 ⟨zz2, rfl⟩⟩
set_option maxHeartbeats 1000000 in
theorem l1Below_any {g : Nat} {n : Int} {w0 w : World} (hc : Cur w0 w g) (h1 : 1 ≤ n) (h2 : n ≤ 256) :
    Calls Try.prog 27 #[.pointer (some ⟨g, 0, none⟩), .int .i64 n] w fun e w' => ∃ x : Int, e = .returned (.int .i64 x) ∧ 0 ≤ x ∧ x < n ∧ Cur w0 w' g ∧ Chg [g] w w' := by
  go_enter Try.func27, Try.ntmps27
  go_wp2_with (go_at_call 44; refine (l1Byte_any hc).mono ?_; rintro e w1 ⟨x, rfl, hx0, hx1, hc1, hC1⟩)
  go_ret
  exact ⟨x % n, rfl, Int.emod_nonneg _ (by omega), Int.emod_lt_of_pos _ (by omega), hc1, hC1⟩
theorem l1Once_any {g : Nat} {n : Int} {w0 w : World} (hc : Cur w0 w g) (h1 : 1 ≤ n) (h2 : n ≤ 256) :
    Calls Try.prog 34 #[.pointer (some ⟨g, 0, none⟩), .int .i64 n] w fun e w' => ∃ t : Bool, e = .returned (.bool t) ∧ Cur w0 w' g ∧ Chg [g] w w' := by
  go_enter Try.func34, Try.ntmps34
  go_wp2_with (go_at_call 27; refine (l1Below_any hc h1 h2).mono ?_; rintro e w1 ⟨x, rfl, hx0, hx1, hc1, hC1⟩)
  go_ret
  exact ⟨_, rfl, hc1, hC1⟩
set_option maxHeartbeats 1000000 in
theorem l1PickInt_any {g b m cap : Nat} {cs : Array Value} {w0 w : World} (hc : Cur w0 w g) (h1 : 1 ≤ m) (h2 : m ≤ 256) (hb : BoxAt w b cs) (hcs : ∀ j, j < m → ∃ x : Int, cs[j]? = some (.int .i64 x)) (hne : b ≠ g) :
    Calls Try.prog 38 #[.pointer (some ⟨g, 0, none⟩), .slice (some ⟨b, 0, none⟩) m cap] w fun e w' => ∃ (x : Int) (j : Nat), e = .returned (.int .i64 x) ∧ j < m ∧ cs[j]? = some (.int .i64 x) ∧ Cur w0 w' g ∧ Chg [g] w w' := by
  have HCS := Lib.hid hcs
  clear hcs
  go_enter Try.func38, Try.ntmps38
  go_wp2_with (go_at_call 27; refine (l1Below_any hc (by omega) (by omega)).mono ?_; rintro e w1 ⟨x, rfl, hx0, hx1, hc1, hC1⟩; obtain ⟨k, rfl⟩ : ∃ k : Nat, x = k := ⟨x.toNat, by omega⟩; have hk : k < m := (by omega); obtain ⟨z, hz⟩ := HCS.out k hk; have HZ := Lib.hid hz; have hb1 := hb.chg hC1 (by simpa using hne); have hcell : w1.cell? ⟨b, k, none⟩ = some (.int .i64 z) := (by rw [hb1.2.1 k]; exact hz); have hbl := hb1.1; clear hz)
  go_ret
  exact ⟨z, k, rfl, hk, HZ.out, hc1, hC1⟩
end Go.Proofs.Ythhdmdmjadpgjaa
