/- Contracts of functions that the statement reaches. -/
import Derived.Test.YtbjpkfgkmilkdaaL08
import Derived.Test.YtbjpkfgkmilkdaaL01
namespace Go.Proofs.Ytbjpkfgkmilkdaa
open Go.RowKit
def seen (ats : List At) : List Int := ats.flatMap (·.2)
def mkU (n : Nat) (s : List Int) : List Bool := (List.range n).map fun (v : Nat) => decide ((v : Int) ∈ s)
@[simp] theorem mkU_length (n : Nat) (s : List Int) : (mkU n s).length = n := by simp [mkU]
theorem mkU_nil (n : Nat) : mkU n [] = List.replicate n false := by
  unfold mkU
  apply List.ext_getElem
  · simp
  · intro i h1 h2
    simp
end Go.Proofs.Ytbjpkfgkmilkdaa
