/- The walk over overlayref19.Inject. Conditions: cars and duties that can be read; slack times that are no more than the greatest number less one. -/
import Derived.Test.YtfmmiafdlfdfoaaObserve
import Derived.Test.YtfmmiafdlfdfoaaHall
import Derived.Test.YtfmmiafdlfdfoaaCallsList
namespace Go.Proofs.Ytfmmiafdlfdfoaa
open Go.RowKit
/-- The age of the last duty of a call, or -1. -/
def ageOf (l : List Duty) (f d : Int) : Int := l.foldl (fun a x => if x.1 = f ∧ x.2.1 = d then x.2.2 else a) (-1)
theorem ageOf_snoc (l : List Duty) (f d : Int) (k : Nat) (e : Duty) (h : l[k]? = some e) : ageOf (l.take (k + 1)) f d = if e.1 = f ∧ e.2.1 = d then e.2.2 else ageOf (l.take k) f d := by
  rw [List.take_add_one, h]
  simp [ageOf]
def itemJ (l : List Duty) (c : CS) (p : Int × Int) : List Duty :=
  if 0 ≤ ageOf l p.1 p.2 then [(p.1, p.2, ageOf l p.1 p.2)] else if has c p.1 p.2 then [(p.1, p.2, 0)] else []
def injectL (l : List Duty) (c : CS) (all : List (Int × Int)) : List Duty := all.flatMap (itemJ l c)
theorem injectL_snoc (l : List Duty) (c : CS) (all : List (Int × Int)) (i : Nat) (p : Int × Int) (h : all[i]? = some p) : injectL l c (all.take (i + 1)) = injectL l c (all.take i) ++ itemJ l c p := by
  rw [List.take_add_one, h]
  simp [injectL]
theorem itemJ_len (l : List Duty) (c : CS) (p : Int × Int) : (itemJ l c p).length ≤ 1 := by unfold itemJ; split <;> (try split) <;> simp
theorem injectL_len (l : List Duty) (c : CS) (all : List (Int × Int)) : (injectL l c all).length ≤ all.length := by
  induction all with
  | nil => simp [injectL]
  | cons p t ih =>
    simp only [injectL, List.flatMap_cons, List.length_append, List.length_cons] at *
    have := itemJ_len l c p
    omega
def injectV (b : BldV) (car : Int) (s : BelV) (c : CS) : BelV :=
  if stateB b car s then ⟨s.fl, s.dir, s.door, injectL s.du c (listC (hallC b)), s.still, if 0 < (injectL s.du c (listC (hallC b))).length then false else s.late⟩ else zeroB
theorem ents_at (l : List (Int × Int)) (i : Nat) (p : Int × Int) (h : l[i]? = some p) (j : Nat) (u : Value) (hu : (entC p)[j]? = some u) : (cells l)[i * 5 + j]? = some u := by
  induction l generalizing i with
  | nil => simp at h
  | cons e l ih =>
    have hj : j < 5 := (List.getElem?_eq_some_iff.1 hu).1
    cases i with
    | zero =>
      obtain rfl : e = p := by simpa using h
      simp only [cells, List.flatMap_cons, Nat.zero_mul, Nat.zero_add]
      rw [List.getElem?_append_left (by simp [entC]; omega)]
      exact hu
    | succ i =>
      have := ih i (by simpa using h)
      simp only [cells, List.flatMap_cons] at this ⊢
      rw [List.getElem?_append_right (by simp [entC]; omega)]
      rw [show (i + 1) * 5 + j - (entC e).length = i * 5 + j by simp [entC]; omega]
      exact this
/-- A slice of entries: its cells. -/
def RdE (w : World) (q : Option Addr) (l : List (Int × Int)) : Prop := ∀ (i : Nat) p, l[i]? = some p → ∃ A, q = some A ∧ A.block < w.heap.size ∧ ∀ j u, (entC p)[j]? = some u → w.cell? (A.add (i * 5 + j)) = some u
theorem RdE.next {w w' : World} {q : Option Addr} {l : List (Int × Int)} (h : RdE w q l) (hb : Below w.heap.size w w') : RdE w' q l := by
  intro i p hp
  obtain ⟨A, hq, hA, hc⟩ := h i p hp
  exact ⟨A, hq, Nat.lt_of_lt_of_le hA hb.size, fun j u hu => cell_later hb (hc j u hu)⟩
theorem rdE_of_owns {w : World} {base cap n : Nat} {q : Option Addr} {l : List (Int × Int)} (h : w.ownsRow base 53 5 (.slice q n cap) n (cells l)) (hn : l.length = n) : RdE w q l := by
  intro i p hp
  have hi := (List.getElem?_eq_some_iff.1 hp).1
  rcases h.2 with ⟨hv, hx⟩ | ⟨g', cap', cur, hv, _, hh, _⟩
  · simp at hv; omega
  · simp at hv
    obtain ⟨rfl, rfl⟩ := hv
    refine ⟨⟨g', 0, none⟩, rfl, (Array.getElem?_eq_some_iff.1 hh).1, fun j u hu => ?_⟩
    have hj : j < 5 := (List.getElem?_eq_some_iff.1 hu).1
    rw [Addr.add_lit, Nat.zero_add, h.cellAt _ (by omega)]
    exact ents_at l i p hp j u hu
theorem RdE.reg {w : World} {q : Option Addr} {l : List (Int × Int)} (h : RdE w q l) {i : Nat} {p : Int × Int} (hi : l[i]? = some p) : ∃ A, q = some A ∧ A.block < w.heap.size ∧
    (∀ W, Grow.Cl w.drew W → W.cell? (A.add (i * 5)) = some (.int .i64 p.1)) ∧ (∀ W, Grow.Cl w.drew W → W.cell? ⟨(A.add (i * 5)).block, (A.add (i * 5)).off + 1, none⟩ = some (.int .i64 p.2)) := by
  obtain ⟨A, hq, hA, hc⟩ := h i p hi
  refine ⟨A, hq, hA, fun W hW => cell_later (Grow.Cl.base hW) (hc 0 _ rfl), fun W hW => cell_later (Grow.Cl.base hW) ?_⟩
  rw [← addr_one]; exact hc 1 _ rfl
theorem listC_len (c : CS) : (listC c).length ≤ 64 := listTo_len c 32
end Go.Proofs.Ytfmmiafdlfdfoaa
