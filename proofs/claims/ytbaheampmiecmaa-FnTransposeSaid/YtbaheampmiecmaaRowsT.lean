/- The type of lists of lists of numbers, as the model holds it. -/
import Derived.Test.YtbaheampmiecmaaRows
import Derived.Test.YtbaheampmiecmaaOwn
namespace Go.Proofs.Ytbaheampmiecmaa
theorem tRRr : SlT Try.prog 35 24 1 24 (.slice none 0 0) := ⟨Try.underlying35, by kernel_rfl, rfl, by omega⟩
end Go.Proofs.Ytbaheampmiecmaa
