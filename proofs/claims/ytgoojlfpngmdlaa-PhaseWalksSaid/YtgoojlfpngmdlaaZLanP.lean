/- What 'x, e := lantern.Light(..)' leaves; rows of sets that are made; the sanity check's numbers. Conditions: none. -/
import Derived.Test.YtgoojlfpngmdlaaZLight
import Derived.Test.YtgoojlfpngmdlaaZInit
namespace Go.Proofs.Ytgoojlfpngmdlaa
open Go.RowKit
theorem drewB2 (w : World) : Below w.heap.size w w.drew := ⟨rfl, rfl, rfl, Nat.le_refl _, fun _ _ => rfl⟩
theorem below_al2 {B : Nat} {w W : World} (h : Below B w W) (hB : B ≤ w.heap.size) (o : Obj) : Below B w (W.alloc o) := h.trans ((below1' W o).mono (Nat.le_trans hB h.size))
theorem base_frozen2 {W w1 : World} (hb : Below W.heap.size W w1) : ∀ b o, b < W.heap.size → w1.frozen? ⟨b, o, none⟩ = W.frozen? ⟨b, o, none⟩ := fun b o h => hb.frozen (p := ⟨b, o, none⟩) h
theorem drewA2 (w : World) (o : Obj) : Below w.heap.size w (w.alloc o).drew := ⟨rfl, rfl, rfl, (below1' w o).size, (below1' w o).block⟩
theorem setB2 {B g i : Nat} {w W : World} {u : Value} (h : Below B w W) (hg : B ≤ g) : Below B w (W.setCell ⟨g, i, none⟩ u) := h.setCell (p := ⟨g, i, none⟩) hg u
theorem drewAA2 (w : World) (o o' : Obj) : Below w.heap.size w ((w.alloc o).alloc o').drew := ((below1' w o).trans ((below1' _ o').mono (by simp))).drew
def zerosC (n : Nat) : Array Value := madeCells #[.int .u32 0, .int .u32 0] (n * 2)
def csZ (n : Nat) : List CS := List.replicate n (0#32, 0#32)
theorem zerosC_list (n : Nat) : (zerosC n).toList = csCells (csZ n) := by
  apply List.ext_getElem?
  intro j
  by_cases hj : j < n * 2
  · have h1 : (csZ n)[j / 2]? = some (0#32, 0#32) := by rw [csZ, List.getElem?_replicate, if_pos (by omega)]
    obtain ⟨h2, h3⟩ := csCells_at _ _ _ h1
    have h6 : j % 2 = 0 ∨ j % 2 = 1 := by omega
    have h5 : (zerosC n).toList[j]? = some ((#[Value.int .u32 0, .int .u32 0] : Array Value)[j % 2]!) := by
      unfold zerosC madeCells
      simp [hj]
    rw [h5]
    rcases h6 with h | h
    · rw [show j / 2 * 2 = j by omega] at h2; rw [h2, h]; rfl
    · rw [show j / 2 * 2 + 1 = j by omega] at h3; rw [h3, h]; rfl
  · rw [List.getElem?_eq_none (by simp [zerosC, madeCells]; omega), List.getElem?_eq_none (by rw [csCells_len]; simp [csZ]; omega)]
theorem zerosC_size (n : Nat) : (zerosC n).size = n * 2 := size_madeCells _ _
/-- A place of a row, behind whatever a drawing region has done. -/
theorem row_reg {w : World} {base g n cap size : Nat} {e : TypeId} {xs : List Value} (h : w.ownsRow base e size (.slice (some ⟨g, 0, none⟩) n cap) n xs) (j : Nat) (hj : j < n * size) (v : Value) (hv : xs[j]? = some v) : ∀ W, Grow.Cl w.drew W → W.cell? ⟨g, j, none⟩ = some v :=
  fun _ hW => cell_later (Grow.Cl.base hW) (by rw [h.cellAt j hj]; exact hv)
end Go.Proofs.Ytgoojlfpngmdlaa
