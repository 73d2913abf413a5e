/- The type of lists of lists of numbers, as the model holds it. -/
import Derived.Test.YtoffbconbgipjaaRows
import Derived.Test.YtoffbconbgipjaaOwn
namespace Go.Proofs.Ytoffbconbgipjaa
theorem tIIr : SlT Try.prog 62 22 1 24 (.slice none 0 0) := ⟨Try.underlying62, by kernel_rfl, rfl, by omega⟩
end Go.Proofs.Ytoffbconbgipjaa
