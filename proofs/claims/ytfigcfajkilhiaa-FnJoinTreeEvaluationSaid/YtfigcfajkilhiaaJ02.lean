/- Contracts of functions that the statement reaches. -/
import Derived.RegionTactic
import Derived.Test.YtfigcfajkilhiaaRows
import Derived.Test.YtfigcfajkilhiaaJ01
namespace Go.Proofs.Ytfigcfajkilhiaa
open Go.RowKit
set_option maxHeartbeats 1000000 in
theorem l1Pick_any {g b m cap : Nat} {cs : Array Value} {w0 w : World} (hc : Cur w0 w g) (h1 : 1 ≤ m) (h2 : m ≤ 256) (hb : BoxAt w b cs) (hcs : ∀ j, j < m → ∃ x : ByteArray, cs[j]? = some (.string x)) (hne : b ≠ g) :
    Calls Try.prog 138 #[.pointer (some ⟨g, 0, none⟩), .slice (some ⟨b, 0, none⟩) m cap] w fun e w' => ∃ (x : ByteArray) (j : Nat), e = .returned (.string x) ∧ j < m ∧ cs[j]? = some (.string x) ∧ Cur w0 w' g ∧ Chg [g] w w' := by
  have HCS := Lib.hid hcs
  clear hcs
  go_enter Try.func138, Try.ntmps138
  go_wp2_with (go_at_call 136; refine (l1Below_any hc (by omega) (by omega)).mono ?_; rintro e w1 ⟨x, rfl, hx0, hx1, hc1, hC1⟩; obtain ⟨k, rfl⟩ : ∃ k : Nat, x = k := ⟨x.toNat, by omega⟩; have hk : k < m := (by omega); obtain ⟨z, hz⟩ := HCS.out k hk; have HZ := Lib.hid hz; have hb1 := hb.chg hC1 (by simpa using hne); have hcell : w1.cell? ⟨b, k, none⟩ = some (.string z) := (by rw [hb1.2.1 k]; exact hz); have hbl := hb1.1; clear hz)
  go_ret
  exact ⟨z, k, rfl, hk, HZ.out, hc1, hC1⟩
end Go.Proofs.Ytfigcfajkilhiaa
