/- The walks over the observations of the reference: which are observations, and which call they show. Conditions: none. -/
import Derived.Test.YtgoojlfpngmdlaaZState
import Derived.Test.YtgoojlfpngmdlaaZCalls
namespace Go.Proofs.Ytgoojlfpngmdlaa
open Go.RowKit
/-- An observation: floor, direction, door. -/
abbrev ObsV : Type := Int × Int × Int
def okB (n : Int) : Bool := decide (2 ≤ n) && decide (n ≤ 32)
def obsB (n : Int) (o : ObsV) : Bool := okB n && inR (-1) (n - 1) o.1 && inR 0 3 o.2.1 && inR 0 3 o.2.2
def showsV (n : Int) (o : ObsV) : CS :=
  if obsB n o = true ∧ o.2.2 = 1 ∧ 0 ≤ o.1 then (if o.2.1 = 1 ∧ o.1 < n - 1 then (bit o.1, 0#32) else if o.2.1 = 2 ∧ 0 < o.1 then (0#32, bit o.1) else (0#32, 0#32)) else (0#32, 0#32)
end Go.Proofs.Ytgoojlfpngmdlaa
