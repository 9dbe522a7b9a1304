/- Regions that draw their order and make one block on the way: where it lies depends on the order; that it is new and what it holds does not. Conditions: none. -/
import Derived.Test.YtpgcpalemnnbaaaBld
namespace Go.Proofs.Ytpgcpalemnnbaaa
open Go.RowKit

def mkR (mk : Nat → Value) (lo : Nat) (xs : List Value) : Array Value → Value → World → Prop := fun _ v w => ∃ b, v = mk b ∧ lo ≤ b ∧ Blk w b xs
def mkPlan (k : Nat) (mk : Nat → Value) (lo : Nat) (xs : List Value) : Grow.Plan := fun i => if i = k then some (mkR mk lo xs) else none
theorem mkPlan_stable (k : Nat) (mk : Nat → Value) (lo : Nat) (xs : List Value) : (mkPlan k mk lo xs).stable := by
  intro i r h _ v w w' hr hb
  unfold mkPlan at h
  split at h
  · cases h
    obtain ⟨b, hv, hlo, hT⟩ := hr
    exact ⟨b, hv, hlo, hT.next hb⟩
  · cases h
section
variable {P : Program} {ops : Array Oper} {md : Region.Mode} {w0 : World} {Q : Act → Grow.Facts → Prop} {rest : List Oper} {a : Act} {T : Grow.Facts} {o : Oper}
theorem lex_mk (j : Nat) (mk : Nat → Value) (lo : Nat) (xs : List Value) (ty : TypeId) (hw : Region.wanted o (yielded ops a.tmps) = true) (hz : ∀ w, (execOp a.eval o).run P w = .ok (.value (mk w.heap.size)) (w.alloc (.cells xs.toArray ty))) (hlo : lo ≤ w0.heap.size)
    (h : ∀ b, lo ≤ b → Grow.lexR P ops md w0 (mkPlan j mk lo xs) Q (j + 1) rest (a.put o.dst (mk b)) (Grow.upd T j (mkR mk lo xs (Grow.vals o a) (mk b)))) :
    Grow.lexR P ops md w0 (mkPlan j mk lo xs) Q j (o :: rest) a T := by
  unfold Grow.lexR
  rw [if_pos hw]
  have e : mkPlan j mk lo xs j = some (mkR mk lo xs) := if_pos rfl
  unfold Grow.opR
  simp only [e]
  refine ⟨fun w hC _ => ?_, fun v hW => ?_⟩
  · unfold Grow.yields
    rw [hz w]
    exact ⟨below1' _ _, w.heap.size, rfl, Nat.le_trans hlo hC.size, Blk.new _ _ _⟩
  · obtain ⟨w, _, hT⟩ := hW
    obtain ⟨_, ⟨b, rfl, hb, _⟩⟩ := Grow.Holds.of_upd hT
    exact h b hb
theorem mk_blk {j lo b : Nat} {mk : Nat → Value} {ys : List Value} {xs : Array Value} {w : World} (hinj : ∀ x y, mk x = mk y → x = y) (h : Grow.Holds (Grow.upd T j (mkR mk lo ys xs (mk b))) w) : Blk w b ys := by
  obtain ⟨_, b', hb, _, hT⟩ := Grow.Holds.of_upd h
  rw [hinj _ _ hb]
  exact hT
end
end Go.Proofs.Ytpgcpalemnnbaaa
