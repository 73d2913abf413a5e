/- Connected components: parts grown from a number, and numbers that take over the least of their neighbours' marks. No program in it. -/
import Derived.Test.YtoffbconbgipjaaAsc
import Derived.Test.YtoffbconbgipjaaJTree
namespace Go.Proofs.Ytoffbconbgipjaa
open Go.RowKit

def growR (nb : Int → List Int) (part : List Int) : List Int := part.foldl (fun acc x => uniL acc (nb x)) part
def growN (nb : Int → List Int) : Nat → List Int → List Int
  | 0, p => p
  | f + 1, p => growN nb f (growR nb p)
/-- the program's way: f numbers from k on -/
def ccI (nb : Int → List Int) (n : Nat) : Nat → Nat → List Int → List (List Int) → List (List Int)
  | 0, _, _, out => out
  | f + 1, k, done, out => if decide ((k : Int) ∈ done) = true then ccI nb n f (k + 1) done out else ccI nb n f (k + 1) (done ++ growN nb n [(k : Int)]) (out ++ [growN nb n [(k : Int)]])
def ccP (nb : Int → List Int) (n : Nat) : List (List Int) := ccI nb n n 0 [] []
/-- the reference's way -/
def relax (v : Nat) : List Int → List Int → List Int
  | mark, [] => mark
  | mark, x :: xs => relax v (mark.set v (min (mark.getD v 0) (mark.getD x.toNat 0))) xs
def sweep (nb : Int → List Int) : Nat → Nat → List Int → List Int
  | 0, _, mark => mark
  | f + 1, k, mark => sweep nb f (k + 1) (relax k mark (nb k))
def sweeps (nb : Int → List Int) (n : Nat) : Nat → List Int → List Int
  | 0, mark => mark
  | f + 1, mark => sweeps nb n f (sweep nb n 0 mark)
def partS (mark : List Int) (n : Nat) (v : Nat) : List Int := selF (fun w => decide (mark.getD w.toNat 0 = v)) n 0
def ccO (mark : List Int) (n : Nat) : Nat → Nat → List (List Int) → List (List Int)
  | 0, _, out => out
  | f + 1, k, out => ccO mark n f (k + 1) (if 0 < (partS mark n k).length then out ++ [partS mark n k] else out)
def ccS (nb : Int → List Int) (n : Nat) : List (List Int) := ccO (sweeps nb n n ((List.range n).map Int.ofNat)) n n 0 []
/-! every graph of at most five points -/
def adj (bits : List Bool) (v w : Nat) : Bool := bits.getD (max v w * (max v w - 1) / 2 + min v w) false
def nbB (bits : List Bool) (n : Nat) (v : Int) : List Int := if v < 0 then [] else if (n : Int) ≤ v then [] else selF (fun w => decide (w ≠ v) && adj bits v.toNat w.toNat) n 0
def chkC (m n : Nat) : Bool := (allLists [false, true] m).all fun bits => decide (ccP (nbB bits n) n = ccS (nbB bits n) n)
theorem chkC1 : chkC 0 1 = true := by decide +kernel
theorem chkC2 : chkC 1 2 = true := by decide +kernel
theorem chkC3 : chkC 3 3 = true := by decide +kernel
theorem chkC4 : chkC 6 4 = true := by decide +kernel
end Go.Proofs.Ytoffbconbgipjaa
