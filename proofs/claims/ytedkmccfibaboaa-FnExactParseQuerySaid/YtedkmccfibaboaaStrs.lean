/- Texts compared. No program in it. -/
import Derived.Test.YtedkmccfibaboaaOwn
namespace Go.Proofs.Ytedkmccfibaboaa
open Go.RowKit
theorem str_beqf {s t : ByteArray} (h : s ≠ t) : (s.toList == t.toList) = false := by rw [str_beq, decide_eq_false h]
theorem str_beqt {s t : ByteArray} (h : s = t) : (s.toList == t.toList) = true := by rw [str_beq, decide_eq_true h]
theorem str_bnef {s t : ByteArray} (h : s ≠ t) : (s.toList != t.toList) = true := by rw [bne, str_beqf h]; rfl
theorem str_bnet {s t : ByteArray} (h : s = t) : (s.toList != t.toList) = false := by rw [bne, str_beqt h]; rfl
end Go.Proofs.Ytedkmccfibaboaa
