/- The walk over belief.aged. Conditions: duties that can be read; ages and the limit in range. -/
import Derived.Test.YtfmmiafdlfdfoaaAged
namespace Go.Proofs.Ytfmmiafdlfdfoaa
open Go.RowKit
theorem agedLate_bad (dl : Int) (l : List Duty) (i : Nat) (d : Duty) (h : l[i]? = some d) (hd : dl < d.2.2 + 1) : agedLate dl l = true := by
  unfold agedLate
  rw [List.any_eq_true]
  exact ⟨d, List.mem_of_getElem? h, by simpa using hd⟩
theorem row_nelt {w : World} {base b : Nat} {e : TypeId} {size : Nat} {v : Value} {n : Nat} {xs : List Value} (h : w.ownsRow base e size v n xs) (hb : w.heap.size ≤ b) : some b ≠ v.ownBlock := fun e => Nat.lt_irrefl _ (Nat.lt_of_lt_of_le (h.lt _ e.symm).2 hb)
/-- What belief.aged hands back. -/
def agedT (lo : Nat) (L : List Duty) (late : Bool) (v : Value) (w : World) : Prop := ∃ q cap, v = .tuple #[.slice q L.length cap, .bool late] ∧ RdD w q L ∧ ∀ A, q = some A → lo ≤ A.block
def agedOut (dl : Int) (c : CS) (l : List Duty) : List Duty := if agedLate dl l then [] else agedL c l
end Go.Proofs.Ytfmmiafdlfdfoaa
