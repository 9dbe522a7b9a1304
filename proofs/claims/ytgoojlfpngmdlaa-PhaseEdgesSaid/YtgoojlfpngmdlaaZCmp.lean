/- Regions that draw their order and make one block on the way: where it lies depends on the order; that it is new and what it holds does not. Conditions: none. · The walk over the order of duties. Conditions: none. -/
import Derived.Test.YtgoojlfpngmdlaaZBld
import Derived.Test.YtgoojlfpngmdlaaZSmall
namespace Go.Proofs.Ytgoojlfpngmdlaa
open Go.RowKit

def mkR (mk : Nat → Value) (lo : Nat) (xs : List Value) : Array Value → Value → World → Prop := fun _ v w => ∃ b, v = mk b ∧ lo ≤ b ∧ Blk w b xs
def mkPlan (k : Nat) (mk : Nat → Value) (lo : Nat) (xs : List Value) : Grow.Plan := fun i => if i = k then some (mkR mk lo xs) else none
theorem mkPlan_stable (k : Nat) (mk : Nat → Value) (lo : Nat) (xs : List Value) : (mkPlan k mk lo xs).stable := by
  intro i r h _ v w w' hr hb
  unfold mkPlan at h
  split at h
  · cases h
    obtain ⟨b, hv, hlo, hT⟩ := hr
    exact ⟨b, hv, hlo, hT.next hb⟩
  · cases h
section
variable {P : Program} {ops : Array Oper} {md : Region.Mode} {w0 : World} {Q : Act → Grow.Facts → Prop} {rest : List Oper} {a : Act} {T : Grow.Facts} {o : Oper}
theorem lex_mk (j : Nat) (mk : Nat → Value) (lo : Nat) (xs : List Value) (ty : TypeId) (hw : Region.wanted o (yielded ops a.tmps) = true) (hz : ∀ w, (execOp a.eval o).run P w = .ok (.value (mk w.heap.size)) (w.alloc (.cells xs.toArray ty))) (hlo : lo ≤ w0.heap.size)
    (h : ∀ b, lo ≤ b → Grow.lexR P ops md w0 (mkPlan j mk lo xs) Q (j + 1) rest (a.put o.dst (mk b)) (Grow.upd T j (mkR mk lo xs (Grow.vals o a) (mk b)))) :
    Grow.lexR P ops md w0 (mkPlan j mk lo xs) Q j (o :: rest) a T := by
  unfold Grow.lexR
  rw [if_pos hw]
  have e : mkPlan j mk lo xs j = some (mkR mk lo xs) := if_pos rfl
  unfold Grow.opR
  simp only [e]
  refine ⟨fun w hC _ => ?_, fun v hW => ?_⟩
  · unfold Grow.yields
    rw [hz w]
    exact ⟨below1' _ _, w.heap.size, rfl, Nat.le_trans hlo hC.size, Blk.new _ _ _⟩
  · obtain ⟨w, _, hT⟩ := hW
    obtain ⟨_, ⟨b, rfl, hb, _⟩⟩ := Grow.Holds.of_upd hT
    exact h b hb
theorem mk_blk {j lo b : Nat} {mk : Nat → Value} {ys : List Value} {xs : Array Value} {w : World} (hinj : ∀ x y, mk x = mk y → x = y) (h : Grow.Holds (Grow.upd T j (mkR mk lo ys xs (mk b))) w) : Blk w b ys := by
  obtain ⟨_, b', hb, _, hT⟩ := Grow.Holds.of_upd h
  rw [hinj _ _ hb]
  exact hT
end
end Go.Proofs.Ytgoojlfpngmdlaa
namespace Go.Proofs.Ytgoojlfpngmdlaa
open Go.RowKit

/-- A duty: floor, direction, age. -/
abbrev Duty : Type := Int × Int × Int
abbrev Duty.cells (d : Duty) : List Value := [.int .i64 d.1, .int .i64 d.2.1, .int .i64 d.2.2]
abbrev cvD (d : Duty) : Value := .agg #[.int .i64 d.1, .int .i64 d.2.1, .int .i64 d.2.2]
def cmpD (x y : Duty) : Int := orL [cmpI x.1 y.1, cmpI x.2.1 y.2.1]
def newI2 (g : Nat) : Value := .slice (some ⟨g, 0, none⟩) 2 2
theorem newI2_inj (x y : Nat) (h : newI2 x = newI2 y) : x = y := by unfold newI2 at h; simpa using h
theorem rdI_blk {w : World} {g : Nat} {a b : Int} (h : Blk w g [.int .i64 a, .int .i64 b]) : RdI w (newI2 g) [a, b] := by
  refine ⟨_, _, rfl, fun i x hx => ⟨⟨g, 0, none⟩, rfl, h.lt, ?_⟩⟩
  have hi : i < 2 := (List.getElem?_eq_some_iff.1 hx).1
  rw [Addr.add_lit, Nat.zero_add]
  match i, hi with
  | 0, _ => simp at hx; subst hx; exact h.cell 0 _ rfl
  | 1, _ => simp at hx; subst hx; exact h.cell 1 _ rfl
theorem mk_fact {mk : Nat → Value} {lo g : Nat} {ys : List Value} {xs : Array Value} {w : World} (hinj : ∀ x y, mk x = mk y → x = y) (h : mkR mk lo ys xs (mk g) w) : Blk w g ys := by
  obtain ⟨b, hb, _, hT⟩ := h
  rw [hinj _ _ hb]; exact hT
end Go.Proofs.Ytgoojlfpngmdlaa
