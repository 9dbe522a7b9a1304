/- The walk over overlayref19.Same. Conditions: duties that can be read, at most 1000 of the first. -/
import Derived.Test.YtfmmiafdlfdfoaaObsC
namespace Go.Proofs.Ytfmmiafdlfdfoaa
open Go.RowKit
theorem run_neq_d (x y z a b c : Int) (w : World) : (binOp .neq 71 (.agg #[.int .i64 x, .int .i64 y, .int .i64 z]) (.agg #[.int .i64 a, .int .i64 b, .int .i64 c])).run Try.prog w = .ok (.bool (!(x == a && y == b && z == c))) w := by
  rw [run_neq_struct, run_equalIn_agg w 9999 71 _ _ (by kernel_rfl) (by kernel_rfl)]
  cases h1 : x == a <;> cases h2 : y == b <;> cases h3 : z == c <;> simp [go_sem, h1, h2, h3]
attribute [local go_sem ↓] run_neq_d
def sameB (s u : BelV) : Bool := (s.fl == u.fl) && (s.dir == u.dir) && (s.door == u.door) && (s.still == u.still) && (s.late == u.late) && decide (s.du = u.du)
theorem same_upto (a b : List Duty) (h : a.length = b.length) (hk : ∀ (i : Nat) x y, a[i]? = some x → b[i]? = some y → x = y) : a = b := by
  apply List.ext_getElem?
  intro i
  by_cases hi : i < a.length
  · rw [List.getElem?_eq_getElem hi, List.getElem?_eq_getElem (by omega)]
    exact congrArg some (hk i _ _ (List.getElem?_eq_getElem hi) (List.getElem?_eq_getElem (by omega)))
  · rw [List.getElem?_eq_none (by omega), List.getElem?_eq_none (by omega)]
end Go.Proofs.Ytfmmiafdlfdfoaa
