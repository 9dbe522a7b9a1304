/- A view of a car; the walks over lantern.called and its reference. Conditions: cars that can be read. -/
import Derived.Test.YtgoojlfpngmdlaaZHallB
import Derived.Test.YtgoojlfpngmdlaaZBld10
namespace Go.Proofs.Ytgoojlfpngmdlaa
open Go.RowKit
structure ViewV where
  rd : Bool
  sv : Bool
  lg : Bool
  lo : Bool
  fl : Int
  dir : Int
  ld : Int
  sh : CS
  car : Int
  hu : Int
  hd : Int
abbrev ViewV.cells (v : ViewV) : List Value := [.bool v.rd, .bool v.sv, .bool v.lg, .bool v.lo, .int .i64 v.fl, .int .i64 v.dir, .int .i64 v.ld, .int .u32 (v.sh.1.toNat : Int), .int .u32 (v.sh.2.toNat : Int), .int .u32 v.car, .int .u32 v.hu, .int .u32 v.hd]
abbrev cvV (v : ViewV) : Value := .agg #[.bool v.rd, .bool v.sv, .bool v.lg, .bool v.lo, .int .i64 v.fl, .int .i64 v.dir, .int .i64 v.ld, .int .u32 (v.sh.1.toNat : Int), .int .u32 (v.sh.2.toNat : Int), .int .u32 v.car, .int .u32 v.hu, .int .u32 v.hd]
def viewCells (l : List ViewV) : List Value := l.flatMap ViewV.cells
theorem viewCells_snoc (l : List ViewV) (m : ViewV) : viewCells (l ++ [m]) = viewCells l ++ m.cells := by simp [viewCells]
theorem viewCells_len (l : List ViewV) : (viewCells l).length = l.length * 12 := by
  induction l with
  | nil => rfl
  | cons c l ih => simp only [viewCells, List.flatMap_cons, List.length_append] at *; rw [ih]; simp [ViewV.cells]; omega
theorem viewCells_at (l : List ViewV) (i : Nat) (c : ViewV) (h : l[i]? = some c) (j : Nat) (u : Value) (hu : c.cells[j]? = some u) : (viewCells l)[i * 12 + j]? = some u := by
  induction l generalizing i with
  | nil => simp at h
  | cons q l ih =>
    have hj : j < 12 := (List.getElem?_eq_some_iff.1 hu).1
    show (q.cells ++ viewCells l)[i * 12 + j]? = some u
    cases i with
    | zero =>
      simp at h; subst h
      rw [List.getElem?_append_left (by simp [ViewV.cells]; omega)]
      simpa using hu
    | succ i =>
      rw [List.getElem?_append_right (by simp [ViewV.cells]; omega)]
      have : (i + 1) * 12 + j - q.cells.length = i * 12 + j := by simp [ViewV.cells]; omega
      rw [this]
      exact ih i (by simpa using h)
theorem viewCells_set (l : List ViewV) (i j : Nat) (c c' : ViewV) (u : Value) (hj : j < 12) (hi : l[i]? = some c) (h : c'.cells = c.cells.set j u) : viewCells (l.set i c') = (viewCells l).set (i * 12 + j) u := by
  induction l generalizing i with
  | nil => simp at hi
  | cons q l ih =>
    cases i with
    | zero =>
      simp at hi; subst hi
      show c'.cells ++ viewCells l = (q.cells ++ viewCells l).set (0 * 12 + j) u
      rw [List.set_append_left _ _ (by simp [ViewV.cells]; omega), h, Nat.zero_mul, Nat.zero_add]
    | succ i =>
      show q.cells ++ viewCells (l.set i c') = (q.cells ++ viewCells l).set ((i + 1) * 12 + j) u
      rw [List.set_append_right _ _ (by simp [ViewV.cells]; omega), ih i (by simpa using hi)]
      congr 2
      simp [ViewV.cells]; omega
theorem view_one (v : ViewV) : ∀ u ∈ v.cells, u.oneCell' = true := by
  intro u hu
  simp only [ViewV.cells, List.mem_cons, List.not_mem_nil, or_false] at hu
  rcases hu with rfl | rfl | rfl | rfl | rfl | rfl | rfl | rfl | rfl | rfl | rfl | rfl <;> rfl
/-- The slice from q on holds the views. -/
def RdV (w : World) (q : Option Addr) (l : List ViewV) : Prop := ∀ i c, l[i]? = some c → ∃ A, q = some A ∧ A.block < w.heap.size ∧ ∀ j u, c.cells[j]? = some u → w.cell? (A.add (i * 12 + j)) = some u
theorem RdV.next {w w' : World} {q : Option Addr} {l : List ViewV} (h : RdV w q l) (hb : Below w.heap.size w w') : RdV w' q l := by
  intro i c hc
  obtain ⟨A, hq, hA, hcell⟩ := h i c hc
  refine ⟨A, hq, Nat.lt_of_lt_of_le hA hb.size, fun j u hu => ?_⟩
  rw [hb.cell (by rw [addr_block]; exact hA)]
  exact hcell j u hu
/-- The hall calls at which a car calls. -/
def calledC (b : BldV) (v : ViewV) : CS := if v.sv then both v.sh (hallC b) else (0#32, 0#32)
end Go.Proofs.Ytgoojlfpngmdlaa
