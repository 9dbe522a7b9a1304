/- Regions that draw their order and make one block of two numbers on the way: where it lies depends on the order; that it is new and holds two zeros does not. Conditions: none. · The walks over the sets of entries, and over the equality of two lists. Conditions: lists of at most 200 entries. -/
import Derived.Test.YtgoojlfpngmdlaaZCallsMore
import Derived.Test.YtgoojlfpngmdlaaZCallsPlain
import Derived.RegionTactic
namespace Go.Proofs.Ytgoojlfpngmdlaa
open Go.RowKit

def allocR (lo : Nat) : Array Value → Value → World → Prop := fun _ v w => ∃ b, v = .pointer (some ⟨b, 0, none⟩) ∧ lo ≤ b ∧ Two w b (.int .u32 0) (.int .u32 0)
def allocPlan (k lo : Nat) : Grow.Plan := fun i => if i = k then some (allocR lo) else none
theorem allocPlan_stable (k lo : Nat) : (allocPlan k lo).stable := by
  intro i r h xs v w w' hr hb
  unfold allocPlan at h
  split at h
  · cases h
    obtain ⟨b, hv, hlo, hT⟩ := hr
    exact ⟨b, hv, hlo, hT.next hb⟩
  · cases h
section
variable {P : Program} {ops : Array Oper} {md : Region.Mode} {w0 : World} {Q : Act → Grow.Facts → Prop} {rest : List Oper} {a : Act} {T : Grow.Facts} {o : Oper}
theorem lex_alloc (j lo : Nat) (ty : TypeId) (hw : Region.wanted o (yielded ops a.tmps) = true) (hz : ∀ w, (execOp a.eval o).run P w = .ok (.value (.pointer (some ⟨w.heap.size, 0, none⟩))) (w.alloc (.cells #[.int .u32 0, .int .u32 0] ty))) (hlo : lo ≤ w0.heap.size)
    (h : ∀ b, lo ≤ b → Grow.lexR P ops md w0 (allocPlan j lo) Q (j + 1) rest (a.put o.dst (.pointer (some ⟨b, 0, none⟩))) (Grow.upd T j (allocR lo (Grow.vals o a) (.pointer (some ⟨b, 0, none⟩))))) :
    Grow.lexR P ops md w0 (allocPlan j lo) Q j (o :: rest) a T := by
  unfold Grow.lexR
  rw [if_pos hw]
  have e : allocPlan j lo j = some (allocR lo) := if_pos rfl
  unfold Grow.opR
  simp only [e]
  refine ⟨fun w hC _ => ?_, fun v hW => ?_⟩
  · unfold Grow.yields
    rw [hz w]
    exact ⟨below1 _ _, w.heap.size, rfl, Nat.le_trans hlo hC.size, Two.new _ _ _ _⟩
  · obtain ⟨w, _, hT⟩ := hW
    obtain ⟨_, ⟨b, rfl, hb, _⟩⟩ := Grow.Holds.of_upd hT
    exact h b hb
theorem alloc_two {j lo b : Nat} {xs : Array Value} {w : World} (h : Grow.Holds (Grow.upd T j (allocR lo xs (.pointer (some ⟨b, 0, none⟩)))) w) : Two w b (.int .u32 0) (.int .u32 0) := by
  obtain ⟨_, b', hb, _, hT⟩ := Grow.Holds.of_upd h
  cases hb
  exact hT
end
/-- What lay lies as it lay, but for block b. -/
structure Except (b : Nat) (W W' : World) : Prop where
  os : W'.os = W.os
  tape : W'.tape = W.tape
  output : W'.output = W.output
  size : W.heap.size ≤ W'.heap.size
  block : ∀ k, k < W.heap.size → k ≠ b → W'.heap[k]? = W.heap[k]?
theorem Except.refl (b : Nat) (W : World) : Except b W W := ⟨rfl, rfl, rfl, Nat.le_refl _, fun _ _ _ => rfl⟩
theorem Except.step {b : Nat} {A B C : World} (h : Except b A B) (k : Below B.heap.size B C) : Except b A C :=
  ⟨k.os.trans h.os, k.tape.trans h.tape, k.output.trans h.output, Nat.le_trans h.size k.size, fun i hi hb => (k.block i (Nat.lt_of_lt_of_le hi h.size)).trans (h.block i hi hb)⟩
theorem Except.set {b : Nat} {A B : World} (h : Except b A B) (u v : Value) : Except b A ((B.setCell ⟨b, 0, none⟩ u).setCell ⟨b, 1, none⟩ v) :=
  ⟨h.os, h.tape, h.output, by simpa [World.setCell] using h.size, fun i hi hb => ((Below.heap_setCell _ _ _ _ hb).trans (Below.heap_setCell _ _ _ _ hb)).trans (h.block i hi hb)⟩
theorem Except.fresh {b c : Nat} {A B : World} (h : Except b A B) (hc : A.heap.size ≤ c) (u v : Value) : Except b A ((B.setCell ⟨c, 0, none⟩ u).setCell ⟨c, 1, none⟩ v) :=
  ⟨h.os, h.tape, h.output, by simpa [World.setCell] using h.size, fun i hi hb => ((Below.heap_setCell _ _ _ _ (by simp; omega)).trans (Below.heap_setCell _ _ _ _ (by simp; omega))).trans (h.block i hi hb)⟩
theorem Except.below {b n : Nat} {A B : World} (h : Except b A B) (hb : n ≤ b) (hn : n ≤ A.heap.size) : Below n A B := ⟨h.os, h.tape, h.output, h.size, fun k hk => h.block k (by omega) (by omega)⟩
theorem Except.cell {b : Nat} {A B : World} (h : Except b A B) {k i : Nat} (hk : k < A.heap.size) (hb : k ≠ b) : B.cell? ⟨k, i, none⟩ = A.cell? ⟨k, i, none⟩ := by
  simp only [World.cell?, h.block k hk hb]
theorem Except.two {b : Nat} {A B : World} (h : Except b A B) {k : Nat} {x y : Value} (hT : Two A k x y) (hb : k ≠ b) : Two B k x y := by
  have := hT.lt
  obtain ⟨t, hT⟩ := hT; exact ⟨t, (h.block k this hb).trans hT⟩
end Go.Proofs.Ytgoojlfpngmdlaa
namespace Go.Proofs.Ytgoojlfpngmdlaa
open Go.RowKit

/-- An entry: floor, direction, car, moves, moved. -/
abbrev E5 : Type := Int × Int × Int × Int × Bool
def E5.cell (e : E5) : List Value := [.int .i64 e.1, .int .i64 e.2.1, .int .i64 e.2.2.1, .int .i64 e.2.2.2.1, .bool e.2.2.2.2]
def E5.key (e : E5) : Int × Int := (e.1, e.2.1)
/-- v is a slice that holds the entries l. -/
def Rd (w : World) (v : Value) (l : List E5) : Prop :=
  ∃ (q : Option Addr) (cap : Nat), v = .slice q l.length cap ∧ ∀ i e, l[i]? = some e → ∃ A, q = some A ∧ A.block < w.heap.size ∧ ∀ j u, e.cell[j]? = some u → w.cell? (A.add (i * 5 + j)) = some u
theorem add_block (A : Addr) (n : Nat) : (A.add n).block = A.block := by unfold Addr.add; split <;> rfl
theorem add_one (A : Addr) (i j : Nat) : A.add (i + (j + 1)) = ⟨(A.add i).block, (A.add i).off + (j + 1), none⟩ := by
  rw [show i + (j + 1) = (i + j) + 1 by omega, Addr.add_succ']
  unfold Addr.add
  split
  · rename_i h; subst h; simp
  · simp; omega
theorem Rd.next {w w' : World} {v : Value} {l : List E5} (h : Rd w v l) (hb : Below w.heap.size w w') : Rd w' v l := by
  obtain ⟨q, cap, hv, hc⟩ := h
  refine ⟨q, cap, hv, fun i e he => ?_⟩
  obtain ⟨A, hq, hA, hcell⟩ := hc i e he
  refine ⟨A, hq, Nat.lt_of_lt_of_le hA hb.size, fun j u hu => ?_⟩
  rw [hb.cell (by rw [add_block]; exact hA)]
  exact hcell j u hu


end Go.Proofs.Ytgoojlfpngmdlaa
