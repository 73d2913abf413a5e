/- Contracts of functions that the statement reaches. -/
import Derived.Test.YtfigcfajkilhiaaGreatE17
import Derived.Test.YtfigcfajkilhiaaGreatE26
import Derived.Test.YtfigcfajkilhiaaGreatE19
import Derived.Test.YtfigcfajkilhiaaGreatE25
import Derived.Test.YtfigcfajkilhiaaGreatE33
namespace Go.Proofs.YtfigcfajkilhiaaGreat
open Go.RowKit
theorem rel_bd {r : Rd} (h : rowsB r.1 r.2 = true) : BRel r := by
  obtain ⟨h1, h2, h3, h4, _⟩ := rowsB_iff.1 h
  have h5 := sum_len (m := 5) (l := r.2) (fun x hx => by have := (h4 x hx).1; omega)
  exact ⟨⟨by omega, by omega⟩, by omega, by omega⟩
theorem zRel_bd : BRel (0, []) := ⟨⟨by decide, by decide⟩, by decide, by decide⟩
theorem eval_bd (d : Dbd) (q : Qd) : BRel ((evalR d q).getD (0, [])) := by
  cases h : evalR d q with
  | none => exact zRel_bd
  | some r =>
    unfold evalR at h
    split at h
    · unfold projR at h
      split at h
      · exact rel_bd (newR_valid h).1
      · cases h
    · cases h
end Go.Proofs.YtfigcfajkilhiaaGreat
