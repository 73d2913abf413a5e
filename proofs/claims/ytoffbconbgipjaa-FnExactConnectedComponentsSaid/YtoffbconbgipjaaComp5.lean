/- Connected components: every graph of five points. No program in it. -/
import Derived.Test.YtoffbconbgipjaaComp
namespace Go.Proofs.Ytoffbconbgipjaa
def chkP (pre : List Bool) : Bool := (allLists [false, true] 6).all fun bits => decide (ccP (nbB (pre ++ bits) 5) 5 = ccS (nbB (pre ++ bits) 5) 5)
theorem chkP_ffff : chkP [false, false, false, false] = true := by decide +kernel
theorem chkP_ffft : chkP [false, false, false, true] = true := by decide +kernel
theorem chkP_fftf : chkP [false, false, true, false] = true := by decide +kernel
theorem chkP_fftt : chkP [false, false, true, true] = true := by decide +kernel
theorem chkP_ftff : chkP [false, true, false, false] = true := by decide +kernel
theorem chkP_ftft : chkP [false, true, false, true] = true := by decide +kernel
theorem chkP_fttf : chkP [false, true, true, false] = true := by decide +kernel
theorem chkP_fttt : chkP [false, true, true, true] = true := by decide +kernel
theorem chkP_tfff : chkP [true, false, false, false] = true := by decide +kernel
theorem chkP_tfft : chkP [true, false, false, true] = true := by decide +kernel
theorem chkP_tftf : chkP [true, false, true, false] = true := by decide +kernel
theorem chkP_tftt : chkP [true, false, true, true] = true := by decide +kernel
theorem chkP_ttff : chkP [true, true, false, false] = true := by decide +kernel
theorem chkP_ttft : chkP [true, true, false, true] = true := by decide +kernel
theorem chkP_tttf : chkP [true, true, true, false] = true := by decide +kernel
theorem chkP_tttt : chkP [true, true, true, true] = true := by decide +kernel
theorem chkP_all : ∀ a b c d : Bool, chkP [a, b, c, d] = true
  | false, false, false, false => chkP_ffff
  | false, false, false, true => chkP_ffft
  | false, false, true, false => chkP_fftf
  | false, false, true, true => chkP_fftt
  | false, true, false, false => chkP_ftff
  | false, true, false, true => chkP_ftft
  | false, true, true, false => chkP_fttf
  | false, true, true, true => chkP_fttt
  | true, false, false, false => chkP_tfff
  | true, false, false, true => chkP_tfft
  | true, false, true, false => chkP_tftf
  | true, false, true, true => chkP_tftt
  | true, true, false, false => chkP_ttff
  | true, true, false, true => chkP_ttft
  | true, true, true, false => chkP_tttf
  | true, true, true, true => chkP_tttt
theorem chk5 (a b c d e f g h i j : Bool) : ccP (nbB [a, b, c, d, e, f, g, h, i, j] 5) 5 = ccS (nbB [a, b, c, d, e, f, g, h, i, j] 5) 5 := by
  have h1 := chkP_all a b c d
  unfold chkP at h1
  rw [List.all_eq_true] at h1
  have h2 := h1 [e, f, g, h, i, j] (mem_allLists (l := [e, f, g, h, i, j]) fun x _ => by cases x <;> simp)
  simpa using h2
end Go.Proofs.Ytoffbconbgipjaa
