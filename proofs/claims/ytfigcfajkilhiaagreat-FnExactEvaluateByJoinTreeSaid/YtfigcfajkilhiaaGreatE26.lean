/- Contracts of functions that the statement reaches. -/
import Derived.Test.YtfigcfajkilhiaaGreatE24
namespace Go.Proofs.YtfigcfajkilhiaaGreat
open Go.RowKit
theorem vrok_bd {d : VRd} (h : VrOk d) : BVR d := by
  have h1 := h.len
  have h2 := h.cnt
  have h3 := sum_len (m := 5) (l := d.2.2) (fun x hx => by rw [h.rl x hx]; exact h.len)
  refine ⟨by omega, ⟨?_, ?_⟩, by omega, by omega⟩
  · rw [h.ar]; omega
  · rw [h.ar]; omega
end Go.Proofs.YtfigcfajkilhiaaGreat
