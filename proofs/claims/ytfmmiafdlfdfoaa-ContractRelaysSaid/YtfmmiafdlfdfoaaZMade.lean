/- The walk over overlaylaw19.State: a belief made from numbers. Conditions: a building whose cars can be read, with 2 to 32 floors; numbers that can be read. -/
import Derived.Test.YtfmmiafdlfdfoaaZInjectRef
import Derived.Test.YtfmmiafdlfdfoaaZTrace
import Derived.Test.YtfmmiafdlfdfoaaZGrowPair
namespace Go.Proofs.Ytfmmiafdlfdfoaa
open Go.RowKit
def newB : BelV := ⟨-1, 0, 0, [], 0, false⟩
/-- All blocks but one are as they were. -/
structure Exc (b : Nat) (W W' : World) : Prop where
  os : W'.os = W.os
  tape : W'.tape = W.tape
  output : W'.output = W.output
  size : W.heap.size ≤ W'.heap.size
  block : ∀ k, k < W.heap.size → k ≠ b → W'.heap[k]? = W.heap[k]?
theorem Exc.refl (b : Nat) (W : World) : Exc b W W := ⟨rfl, rfl, rfl, Nat.le_refl _, fun _ _ _ => rfl⟩
theorem Exc.step {b : Nat} {A B C : World} (h : Exc b A B) (k : Below B.heap.size B C) : Exc b A C :=
  ⟨k.os.trans h.os, k.tape.trans h.tape, k.output.trans h.output, Nat.le_trans h.size k.size, fun j hj hb => (k.block j (Nat.lt_of_lt_of_le hj h.size)).trans (h.block j hj hb)⟩
theorem Exc.set {b : Nat} {A B : World} (h : Exc b A B) (i : Nat) (u : Value) : Exc b A (B.setCell ⟨b, i, none⟩ u) :=
  ⟨h.os, h.tape, h.output, by simpa [World.setCell] using h.size, fun j hj hb => (Below.heap_setCell _ _ _ _ hb).trans (h.block j hj hb)⟩
theorem Exc.below {b n : Nat} {A B : World} (h : Exc b A B) (hb : n ≤ b) (hn : n ≤ A.heap.size) : Below n A B := ⟨h.os, h.tape, h.output, h.size, fun k hk => h.block k (by omega) (by omega)⟩
theorem Exc.blk {b k : Nat} {A B : World} {xs : List Value} (h : Exc b A B) (hT : Blk A k xs) (hb : k ≠ b) : Blk B k xs := by
  obtain ⟨t, ht⟩ := hT
  exact ⟨t, (h.block k (Array.getElem?_eq_some_iff.1 ht).1 hb).trans ht⟩
theorem Exc.cell {b : Nat} {A B : World} (h : Exc b A B) {p : Addr} (hk : p.block < A.heap.size) (hb : p.block ≠ b) : B.cell? p = A.cell? p := by
  simp only [World.cell?, h.block _ hk hb]
theorem markCells_at (l : List MarkV) (i : Nat) (d : MarkV) (h : l[i]? = some d) (j : Nat) (u : Value) (hu : (MarkV.cells d)[j]? = some u) : (markCells l)[i * 5 + j]? = some u := by
  induction l generalizing i with
  | nil => simp at h
  | cons e l ih =>
    have hj : j < 5 := (List.getElem?_eq_some_iff.1 hu).1
    cases i with
    | zero =>
      obtain rfl : e = d := by simpa using h
      simp only [markCells, List.flatMap_cons, Nat.zero_mul, Nat.zero_add]
      rw [List.getElem?_append_left (by simp; omega)]
      exact hu
    | succ i =>
      have := ih i (by simpa using h)
      simp only [markCells, List.flatMap_cons] at this ⊢
      rw [List.getElem?_append_right (by simp; omega)]
      rw [show (i + 1) * 5 + j - (MarkV.cells e).length = i * 5 + j by simp; omega]
      exact this
/-- A slice of marks: its cells. -/
def RdM (w : World) (q : Option Addr) (l : List MarkV) : Prop := ∀ (i : Nat) p, l[i]? = some p → ∃ A, q = some A ∧ A.block < w.heap.size ∧ ∀ j u, (MarkV.cells p)[j]? = some u → w.cell? (A.add (i * 5 + j)) = some u
theorem RdM.next {w w' : World} {q : Option Addr} {l : List MarkV} (h : RdM w q l) (hb : Below w.heap.size w w') : RdM w' q l := by
  intro i p hp
  obtain ⟨A, hq, hA, hc⟩ := h i p hp
  exact ⟨A, hq, Nat.lt_of_lt_of_le hA hb.size, fun j u hu => cell_later hb (hc j u hu)⟩
theorem RdM.exc {w w' : World} {g : Nat} {q : Option Addr} {l : List MarkV} (h : RdM w q l) (hb : Exc g w w') (hq : ∀ A, q = some A → A.block ≠ g) : RdM w' q l := by
  intro i p hp
  obtain ⟨A, hA, hlt, hc⟩ := h i p hp
  refine ⟨A, hA, Nat.lt_of_lt_of_le hlt hb.size, fun j u hu => ?_⟩
  rw [hb.cell (by rw [addr_block]; exact hlt) (by rw [addr_block]; exact hq A hA)]
  exact hc j u hu
theorem rdM_of_owns {w : World} {base cap n : Nat} {q : Option Addr} {l : List MarkV} (h : w.ownsRow base 51 5 (.slice q n cap) n (markCells l)) (hn : l.length = n) : RdM w q l := by
  intro i p hp
  have hi := (List.getElem?_eq_some_iff.1 hp).1
  rcases h.2 with ⟨hv, hx⟩ | ⟨g', cap', cur, hv, _, hh, _⟩
  · simp at hv; omega
  · simp at hv
    obtain ⟨rfl, rfl⟩ := hv
    refine ⟨⟨g', 0, none⟩, rfl, (Array.getElem?_eq_some_iff.1 hh).1, fun j u hu => ?_⟩
    have hj : j < 5 := (List.getElem?_eq_some_iff.1 hu).1
    rw [Addr.add_lit, Nat.zero_add, h.cellAt _ (by omega)]
    exact markCells_at l i p hp j u hu
theorem RdM.reg {w : World} {q : Option Addr} {l : List MarkV} (h : RdM w q l) {i : Nat} {m : MarkV} (hi : l[i]? = some m) : ∃ A, q = some A ∧ A.block < w.heap.size ∧
    (∀ W, Grow.Cl w.drew W → W.cell? (A.add (i * 5)) = some (.int .u32 (m.1.1.toNat : Int))) ∧ (∀ W, Grow.Cl w.drew W → W.cell? ⟨(A.add (i * 5)).block, (A.add (i * 5)).off + 1, none⟩ = some (.int .u32 (m.1.2.toNat : Int))) ∧
    (∀ W, Grow.Cl w.drew W → W.cell? ⟨(A.add (i * 5)).block, (A.add (i * 5)).off + 2, none⟩ = some (.int .i64 m.2.1)) ∧ (∀ W, Grow.Cl w.drew W → W.cell? ⟨(A.add (i * 5)).block, (A.add (i * 5)).off + 3, none⟩ = some (.int .i64 m.2.2.1)) ∧ (∀ W, Grow.Cl w.drew W → W.cell? ⟨(A.add (i * 5)).block, (A.add (i * 5)).off + 4, none⟩ = some (.int .i64 m.2.2.2)) := by
  obtain ⟨A, hq, hA, hc⟩ := h i m hi
  refine ⟨A, hq, hA, fun W hW => cell_later (Grow.Cl.base hW) (hc 0 _ rfl), fun W hW => cell_later (Grow.Cl.base hW) ?_, fun W hW => cell_later (Grow.Cl.base hW) ?_, fun W hW => cell_later (Grow.Cl.base hW) ?_, fun W hW => cell_later (Grow.Cl.base hW) ?_⟩
  · rw [← addr_one]; exact hc 1 _ rfl
  · rw [← addr_one]; exact hc 2 _ rfl
  · rw [← addr_one]; exact hc 3 _ rfl
  · rw [← addr_one]; exact hc 4 _ rfl
/-- A plan with one told call. -/
def relPlan (k : Nat) (r : Value → World → Prop) : Grow.Plan := fun i => if i = k then some (fun _ v w => r v w) else none
theorem relPlan_stable (k : Nat) (r : Value → World → Prop) (hr : ∀ v, Grow.Stable (r v)) : (relPlan k r).stable := by
  intro i r' h _ v w w' hw hb
  unfold relPlan at h
  split at h
  · cases h; exact hr v w w' hw hb
  · cases h
theorem belE_stable (lo : Nat) (V : BelV) (e : Int) (v : Value) : Grow.Stable (belE lo V e v) := by
  intro w w' hw hb
  obtain ⟨q, cap, hv, hr, hl⟩ := hw
  exact ⟨q, cap, hv, hr.next hb, hl⟩
theorem belE_lo {lo lo' : Nat} {V : BelV} {e : Int} {v : Value} {w : World} (h : belE lo V e v w) (hl : lo' ≤ lo) : belE lo' V e v w := by
  obtain ⟨q, cap, hv, hT, hlo⟩ := h
  exact ⟨q, cap, hv, hT, fun A hA => Nat.le_trans hl (hlo A hA)⟩
theorem obs_len (b : BldV) (car : Int) (s : BelV) (o : ObsV) : (observeV b car s o).du.length ≤ s.du.length := by
  unfold observeV
  split
  · show (agedV b car s (showsV b.fl o)).du.length ≤ _
    unfold agedV
    show (if _ then [] else _ : List Duty).length ≤ _
    split
    · simp
    · exact agedL_len _ _
  · simp [zeroB]
theorem inj_len (b : BldV) (car : Int) (s : BelV) (c : CS) : (injectV b car s c).du.length ≤ 64 := by
  unfold injectV
  split
  · exact Nat.le_trans (injectL_len _ _ _) (listC_len _)
  · simp [zeroB]
def foldV (b : BldV) (l : List MarkV) : BelV := l.foldl (fun s m => injectV b 0 (observeV b 0 s m.2) m.1) newB
theorem foldV_snoc (b : BldV) (l : List MarkV) (i : Nat) (m : MarkV) (h : l[i]? = some m) : foldV b (l.take (i + 1)) = injectV b 0 (observeV b 0 (foldV b (l.take i)) m.2) m.1 := by
  rw [List.take_add_one, h]
  simp [foldV]
theorem belE_form {lo : Nat} {V : BelV} {e : Int} {v : Value} {w : World} (h : belE lo V e v w) : ∃ q cap, v = .tuple #[cvS V q cap, .int .i64 e] := by
  obtain ⟨q, cap, hv, _⟩ := h
  exact ⟨q, cap, hv⟩
theorem belE_out {lo cap : Nat} {V : BelV} {e : Int} {q : Option Addr} {w : World} (h : belE lo V e (.tuple #[cvS V q cap, .int .i64 e]) w) : RdD w q V.du ∧ ∀ A, q = some A → lo ≤ A.block := by
  obtain ⟨q', cap', hv, hr, hl⟩ := h
  obtain ⟨rfl, rfl⟩ : q = q' ∧ cap = cap' := by simpa [cvS] using hv
  exact ⟨hr, hl⟩
end Go.Proofs.Ytfmmiafdlfdfoaa
