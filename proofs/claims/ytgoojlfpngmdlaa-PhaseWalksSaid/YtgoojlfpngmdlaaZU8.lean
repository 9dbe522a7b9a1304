/- Rows of bytes. Conditions: none. -/
import Derived.Test.YtgoojlfpngmdlaaZBld
namespace Go.Proofs.Ytgoojlfpngmdlaa
open Go.RowKit
/-- The slice from q on holds the bytes. -/
def RdU (w : World) (q : Option Addr) (l : List Nat) : Prop := ∀ (i x : Nat), l[i]? = some x → x < 256 ∧ ∃ A, q = some A ∧ A.block < w.heap.size ∧ w.cell? (A.add i) = some (.int .u8 x)
theorem RdU.next {w w' : World} {q : Option Addr} {l : List Nat} (h : RdU w q l) (hb : Below w.heap.size w w') : RdU w' q l := by
  intro i c hc
  obtain ⟨hx, A, hq, hA, hcell⟩ := h i c hc
  refine ⟨hx, A, hq, Nat.lt_of_lt_of_le hA hb.size, ?_⟩
  rw [hb.cell (by rw [addr_block]; exact hA)]
  exact hcell
end Go.Proofs.Ytgoojlfpngmdlaa
