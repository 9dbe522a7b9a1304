/- What is allowed and safe in a phase: the code and its reference. Conditions: none. -/
import Derived.Test.YtfmmiafdlfdfoaaSmall
import Derived.Test.YtfmmiafdlfdfoaaCalls
namespace Go.Proofs.Ytfmmiafdlfdfoaa
open Go.RowKit
attribute [local go_sem ↓] run_eql_cs run_neq_cs
def allowedB (p k : Int) : Bool := decide (k = 0) || decide (p = 3) || decide (p = 4)

/-- Coils: the injected calls, cut out. -/
abbrev cvK (c : CS) (o : Bool) : Value := .agg #[.int .u32 (c.1.toNat : Int), .int .u32 (c.2.toNat : Int), .bool o]
def safeB (p : Int) (c : CS) (o : Bool) : Bool := (c == (0#32, 0#32)) || (!o && wiredB p)
theorem cv_eq (c : CS) : ((c.1.toNat : Int) == 0 && (c.2.toNat : Int) == 0) = (c == (0#32, 0#32)) := by
  have h := cv_ne c
  unfold bne at h
  generalize ((c.1.toNat : Int) == 0) = x at *
  generalize ((c.2.toNat : Int) == 0) = y at *
  generalize (c == (0#32, 0#32)) = z at *
  revert h
  cases x <;> cases y <;> cases z <;> decide
end Go.Proofs.Ytfmmiafdlfdfoaa
