/- Records of the journal as data; which calls are served: the plain law. Conditions: none. -/
import Derived.Test.YtgoojlfpngmdlaaZImg
namespace Go.Proofs.Ytgoojlfpngmdlaa
open Go.RowKit
/-- A record: kind, floor, direction, car, value. -/
abbrev R5 : Type := Int × Int × Int × Int × Int
def R5.cell (e : R5) : List Value := [.int .i64 e.1, .int .i64 e.2.1, .int .i64 e.2.2.1, .int .i64 e.2.2.2.1, .int .i64 e.2.2.2.2]
abbrev cvR (e : R5) : Value := .agg #[.int .i64 e.1, .int .i64 e.2.1, .int .i64 e.2.2.1, .int .i64 e.2.2.2.1, .int .i64 e.2.2.2.2]
def recCells (l : List R5) : List Value := l.flatMap R5.cell
theorem recCells_snoc (l : List R5) (e : R5) : recCells (l ++ [e]) = recCells l ++ e.cell := by simp [recCells]
theorem R5.cell_len (e : R5) : e.cell.length = 5 := rfl
theorem recCells_at (l : List R5) (i : Nat) (e : R5) (h : l[i]? = some e) (j : Nat) (hj : j < 5) : (recCells l)[i * 5 + j]? = e.cell[j]? := by
  induction l generalizing i with
  | nil => simp at h
  | cons q l ih =>
    cases i with
    | zero =>
      simp at h; subst h
      show (q.cell ++ recCells l)[0 * 5 + j]? = _
      rw [List.getElem?_append_left (by rw [R5.cell_len]; omega), Nat.zero_mul, Nat.zero_add]
    | succ i =>
      show (q.cell ++ recCells l)[(i + 1) * 5 + j]? = _
      rw [List.getElem?_append_right (by rw [R5.cell_len]; omega), R5.cell_len, show (i + 1) * 5 + j - 5 = i * 5 + j by omega]
      exact ih i (by simpa using h)
theorem RdX.rc {w : World} {q : Option Addr} {l : List R5} (h : RdX w q (recCells l)) {i : Nat} {e : R5} (he : l[i]? = some e) : ∃ A, q = some A ∧ A.block < w.heap.size ∧
    w.cell? (A.add (i * 5)) = some (.int .i64 e.1) ∧ w.cell? ⟨(A.add (i * 5)).block, (A.add (i * 5)).off + 1, none⟩ = some (.int .i64 e.2.1) ∧ w.cell? ⟨(A.add (i * 5)).block, (A.add (i * 5)).off + 2, none⟩ = some (.int .i64 e.2.2.1) ∧ w.cell? ⟨(A.add (i * 5)).block, (A.add (i * 5)).off + 3, none⟩ = some (.int .i64 e.2.2.2.1) ∧ w.cell? ⟨(A.add (i * 5)).block, (A.add (i * 5)).off + 4, none⟩ = some (.int .i64 e.2.2.2.2) := by
  have hh : ∀ j (hj : j < 5) u, e.cell[j]? = some u → ∃ A, q = some A ∧ A.block < w.heap.size ∧ w.cell? (A.add (i * 5 + j)) = some u := fun j hj u hu => h (i * 5 + j) u (by rw [recCells_at l i e he j hj]; exact hu)
  obtain ⟨A, hq, hA, h0⟩ := hh 0 (by omega) _ rfl
  have h2 : ∀ j (hj : j < 5) u, e.cell[j]? = some u → w.cell? (A.add (i * 5 + j)) = some u := fun j hj u hu => by
    obtain ⟨A', hq', _, hc⟩ := hh j hj u hu
    obtain rfl : A = A' := by rw [hq] at hq'; simpa using hq'
    exact hc
  exact ⟨A, hq, hA, h0, by rw [← addr_one]; exact h2 1 (by omega) _ rfl, by rw [← addr_one]; exact h2 2 (by omega) _ rfl, by rw [← addr_one]; exact h2 3 (by omega) _ rfl, by rw [← addr_one]; exact h2 4 (by omega) _ rfl⟩
theorem rec_one (e : R5) : ∀ u ∈ e.cell, u.oneCell' = true := by
  intro u hu
  simp only [R5.cell, List.mem_cons, List.not_mem_nil, or_false] at hu
  rcases hu with rfl | rfl | rfl | rfl | rfl <;> rfl
theorem rec_new (w : World) (d : R5) (ty : TypeId) : ∀ j u, d.cell[j]? = some u → (w.alloc (.cells #[.int .i64 d.1, .int .i64 d.2.1, .int .i64 d.2.2.1, .int .i64 d.2.2.2.1, .int .i64 d.2.2.2.2] ty)).cell? ((⟨w.heap.size, 0, none⟩ : Addr).add j) = some u := fun j u hu => by
  have := blk_news (Blk.new w d.cell ty) j u hu
  exact this
theorem infoR : (Try.prog.info? 47).map (fun i => (i.zero, i.size, i.bytes)) = some (some (.agg #[.int .i64 0, .int .i64 0, .int .i64 0, .int .i64 0, .int .i64 0]), 5, 40) := by kernel_rfl
/-- The calls at which the first k cars call. -/
def setV (b : BldV) (V : List ViewV) : CS := V.foldl (fun c v => union c (calledC b v)) (0#32, 0#32)
theorem setV_take (b : BldV) (V : List ViewV) (i : Nat) (v : ViewV) (h : V[i]? = some v) : setV b (V.take (i + 1)) = union (setV b (V.take i)) (calledC b v) := by
  unfold setV
  rw [List.take_add_one, h, List.foldl_append]; rfl
def servR (e : E5) : R5 := (2, e.1, e.2.1, 0, 0)
def servL (c : CS) (l : List E5) : List R5 := (l.filter fun e => has c e.1 e.2.1).map servR
theorem servL_take (c : CS) (l : List E5) (i : Nat) (e : E5) (h : l[i]? = some e) : servL c (l.take (i + 1)) = servL c (l.take i) ++ if has c e.1 e.2.1 then [servR e] else [] := by
  unfold servL
  rw [List.take_add_one, h, List.filter_append, List.map_append]
  congr 1
  show ((([e] : List E5).filter _).map servR) = _
  simp only [List.filter_cons, List.filter_nil]
  split <;> rfl
theorem servL_len (c : CS) (l : List E5) : (servL c l).length ≤ l.length := by
  unfold servL
  rw [List.length_map]
  exact List.length_filter_le _ _
def servF (b : BldV) (m : ImgV) (V : List ViewV) : List R5 := if imgB b m = true ∧ V.length = b.cars.length then servL (setV b V) m.en else []
end Go.Proofs.Ytgoojlfpngmdlaa
